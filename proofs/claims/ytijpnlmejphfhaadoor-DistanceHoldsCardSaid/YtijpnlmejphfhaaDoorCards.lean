/-
  DERIVED. GIVEN WITH THE SEED: THE CARDS: each row of YtijpnlmejphfhaaDoorRows.lean that lists a variable, with what it lists TIED to the program's text (the seventh form; the later family's looks); each row that meets fmt, with fmt's text TOLD by the authors' own Lean function (tested against real Go, not proved from fmt's source: count such statements apart). THE CARD IS WHAT COUNTS. Prove the row's statement (the work); the ties are given (YtijpnlmejphfhaaDoorTie.lean); close each card by the builder's one call (the guide's Derived/Test/ToyasCard.lean, 'card_holds'). Laid BY PROGRAM, IN A SANDBOX (cutbox-door.mjs). By AI agents, Wed Nov 11 2026. No macro, syntax, notation, axiom, sorry.
-/
import Derived.Test.YtijpnlmejphfhaaDoorRows
import GoSem.ClaimSeven
namespace Go.Proofs.YtijpnlmejphfhaaDoor
namespace Rows

/-- THE TIED CARD OF 'shuttlelaw32.SpectrumCounts'. -/
def spectrumCountsCard : Claim7 := { stood := { row := spectrumCountsRow, standIns := [], harness := (true, "a7fc038c7c2a8a564e9b8005b89cb46cde8941fb83eb2806b8d9b31c8ca4becd"), looks := true }, kinds := [], alts := [], laidByText := true, laidKinds := [.data], laidTests := true, laidLooks := .later }
def SpectrumCountsCardSaid : Prop := Claim7.holds Tryd.pinned (.plain (OpenSpec.ofChange spectrumCountsSpec)) spectrumCountsCard

/-- THE TIED CARD OF 'shuttlelaw32.SpectrumLeast'. -/
def spectrumLeastCard : Claim7 := { stood := { row := spectrumLeastRow, standIns := [], harness := (true, "a7fc038c7c2a8a564e9b8005b89cb46cde8941fb83eb2806b8d9b31c8ca4becd"), looks := true }, kinds := [], alts := [], laidByText := true, laidKinds := [.data], laidTests := true, laidLooks := .later }
def SpectrumLeastCardSaid : Prop := Claim7.holds Tryd.pinned (.plain (OpenSpec.ofChange spectrumLeastSpec)) spectrumLeastCard

/-- THE TIED CARD OF 'shuttlelaw32.SpectrumFirst'. -/
def spectrumFirstCard : Claim7 := { stood := { row := spectrumFirstRow, standIns := [], harness := (true, "a7fc038c7c2a8a564e9b8005b89cb46cde8941fb83eb2806b8d9b31c8ca4becd"), looks := true }, kinds := [], alts := [], laidByText := true, laidKinds := [.data], laidTests := true, laidLooks := .later }
def SpectrumFirstCardSaid : Prop := Claim7.holds Tryd.pinned (.plain (OpenSpec.ofChange spectrumFirstSpec)) spectrumFirstCard

/-- THE TIED CARD OF 'shuttlelaw32.SpectrumAll'. -/
def spectrumAllCard : Claim7 := { stood := { row := spectrumAllRow, standIns := [], harness := (true, "a7fc038c7c2a8a564e9b8005b89cb46cde8941fb83eb2806b8d9b31c8ca4becd"), looks := true }, kinds := [], alts := [], laidByText := true, laidKinds := [.data], laidTests := true, laidLooks := .later }
def SpectrumAllCardSaid : Prop := Claim7.holds Tryd.pinned (.plain (OpenSpec.ofChange spectrumAllSpec)) spectrumAllCard

/-- THE TIED CARD OF 'shuttlelaw12.DistanceHolds'. -/
def distanceHoldsCard : Claim7 := { stood := { row := distanceHoldsRow, standIns := [], harness := (true, "a7fc038c7c2a8a564e9b8005b89cb46cde8941fb83eb2806b8d9b31c8ca4becd"), looks := true }, kinds := [], alts := [], laidByText := true, laidKinds := [.data], laidTests := true, laidLooks := .later }
def DistanceHoldsCardSaid : Prop := Claim7.holds Tryd.pinned (.plain (OpenSpec.ofChange distanceHoldsSpec)) distanceHoldsCard

/-- THE TIED CARD OF 'shuttlelaw12.DistanceGrows'. -/
def distanceGrowsCard : Claim7 := { stood := { row := distanceGrowsRow, standIns := [], harness := (true, "a7fc038c7c2a8a564e9b8005b89cb46cde8941fb83eb2806b8d9b31c8ca4becd"), looks := true }, kinds := [], alts := [], laidByText := true, laidKinds := [.data], laidTests := true, laidLooks := .later }
def DistanceGrowsCardSaid : Prop := Claim7.holds Tryd.pinned (.plain (OpenSpec.ofChange distanceGrowsSpec)) distanceGrowsCard

/-- THE TIED CARD OF 'shuttlelaw12.DistanceTurns'. -/
def distanceTurnsCard : Claim7 := { stood := { row := distanceTurnsRow, standIns := [], harness := (true, "a7fc038c7c2a8a564e9b8005b89cb46cde8941fb83eb2806b8d9b31c8ca4becd"), looks := true }, kinds := [], alts := [], laidByText := true, laidKinds := [.data], laidTests := true, laidLooks := .later }
def DistanceTurnsCardSaid : Prop := Claim7.holds Tryd.pinned (.plain (OpenSpec.ofChange distanceTurnsSpec)) distanceTurnsCard

/-- THE TIED CARD OF 'shuttlelaw12.DistanceLeast'. -/
def distanceLeastCard : Claim7 := { stood := { row := distanceLeastRow, standIns := [], harness := (true, "a7fc038c7c2a8a564e9b8005b89cb46cde8941fb83eb2806b8d9b31c8ca4becd"), looks := true }, kinds := [], alts := [], laidByText := true, laidKinds := [.data], laidTests := true, laidLooks := .later }
def DistanceLeastCardSaid : Prop := Claim7.holds Tryd.pinned (.plain (OpenSpec.ofChange distanceLeastSpec)) distanceLeastCard

/-- THE SECOND FORM's CARD OF 'shuttlelaw32.SpectrumCounts'. -/
def spectrumCountsUptoCard : Claim7 := { stood := { row := spectrumCountsUptoRow, standIns := [], harness := (true, "a7fc038c7c2a8a564e9b8005b89cb46cde8941fb83eb2806b8d9b31c8ca4becd"), looks := true }, kinds := [], alts := [], laidByText := true, laidKinds := [.data], laidTests := true, laidLooks := .later }
def SpectrumCountsUptoCardSaid : Prop := Claim7.holds Tryd.pinned (.plain (OpenSpec.upto spectrumCountsSpec)) spectrumCountsUptoCard

/-- THE SECOND FORM's CARD OF 'shuttlelaw32.SpectrumLeast'. -/
def spectrumLeastUptoCard : Claim7 := { stood := { row := spectrumLeastUptoRow, standIns := [], harness := (true, "a7fc038c7c2a8a564e9b8005b89cb46cde8941fb83eb2806b8d9b31c8ca4becd"), looks := true }, kinds := [], alts := [], laidByText := true, laidKinds := [.data], laidTests := true, laidLooks := .later }
def SpectrumLeastUptoCardSaid : Prop := Claim7.holds Tryd.pinned (.plain (OpenSpec.upto spectrumLeastSpec)) spectrumLeastUptoCard

/-- THE SECOND FORM's CARD OF 'shuttlelaw32.SpectrumFirst'. -/
def spectrumFirstUptoCard : Claim7 := { stood := { row := spectrumFirstUptoRow, standIns := [], harness := (true, "a7fc038c7c2a8a564e9b8005b89cb46cde8941fb83eb2806b8d9b31c8ca4becd"), looks := true }, kinds := [], alts := [], laidByText := true, laidKinds := [.data], laidTests := true, laidLooks := .later }
def SpectrumFirstUptoCardSaid : Prop := Claim7.holds Tryd.pinned (.plain (OpenSpec.upto spectrumFirstSpec)) spectrumFirstUptoCard

/-- THE SECOND FORM's CARD OF 'shuttlelaw32.SpectrumAll'. -/
def spectrumAllUptoCard : Claim7 := { stood := { row := spectrumAllUptoRow, standIns := [], harness := (true, "a7fc038c7c2a8a564e9b8005b89cb46cde8941fb83eb2806b8d9b31c8ca4becd"), looks := true }, kinds := [], alts := [], laidByText := true, laidKinds := [.data], laidTests := true, laidLooks := .later }
def SpectrumAllUptoCardSaid : Prop := Claim7.holds Tryd.pinned (.plain (OpenSpec.upto spectrumAllSpec)) spectrumAllUptoCard

/-- THE SECOND FORM's CARD OF 'shuttlelaw12.DistanceHolds'. -/
def distanceHoldsUptoCard : Claim7 := { stood := { row := distanceHoldsUptoRow, standIns := [], harness := (true, "a7fc038c7c2a8a564e9b8005b89cb46cde8941fb83eb2806b8d9b31c8ca4becd"), looks := true }, kinds := [], alts := [], laidByText := true, laidKinds := [.data], laidTests := true, laidLooks := .later }
def DistanceHoldsUptoCardSaid : Prop := Claim7.holds Tryd.pinned (.plain (OpenSpec.upto distanceHoldsSpec)) distanceHoldsUptoCard

/-- THE SECOND FORM's CARD OF 'shuttlelaw12.DistanceGrows'. -/
def distanceGrowsUptoCard : Claim7 := { stood := { row := distanceGrowsUptoRow, standIns := [], harness := (true, "a7fc038c7c2a8a564e9b8005b89cb46cde8941fb83eb2806b8d9b31c8ca4becd"), looks := true }, kinds := [], alts := [], laidByText := true, laidKinds := [.data], laidTests := true, laidLooks := .later }
def DistanceGrowsUptoCardSaid : Prop := Claim7.holds Tryd.pinned (.plain (OpenSpec.upto distanceGrowsSpec)) distanceGrowsUptoCard

/-- THE SECOND FORM's CARD OF 'shuttlelaw12.DistanceTurns'. -/
def distanceTurnsUptoCard : Claim7 := { stood := { row := distanceTurnsUptoRow, standIns := [], harness := (true, "a7fc038c7c2a8a564e9b8005b89cb46cde8941fb83eb2806b8d9b31c8ca4becd"), looks := true }, kinds := [], alts := [], laidByText := true, laidKinds := [.data], laidTests := true, laidLooks := .later }
def DistanceTurnsUptoCardSaid : Prop := Claim7.holds Tryd.pinned (.plain (OpenSpec.upto distanceTurnsSpec)) distanceTurnsUptoCard

/-- THE SECOND FORM's CARD OF 'shuttlelaw12.DistanceLeast'. -/
def distanceLeastUptoCard : Claim7 := { stood := { row := distanceLeastUptoRow, standIns := [], harness := (true, "a7fc038c7c2a8a564e9b8005b89cb46cde8941fb83eb2806b8d9b31c8ca4becd"), looks := true }, kinds := [], alts := [], laidByText := true, laidKinds := [.data], laidTests := true, laidLooks := .later }
def DistanceLeastUptoCardSaid : Prop := Claim7.holds Tryd.pinned (.plain (OpenSpec.upto distanceLeastSpec)) distanceLeastUptoCard
end Rows
end Go.Proofs.YtijpnlmejphfhaaDoor
