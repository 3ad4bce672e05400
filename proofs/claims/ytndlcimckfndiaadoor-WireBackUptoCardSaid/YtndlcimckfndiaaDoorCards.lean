/-
  DERIVED. GIVEN WITH THE SEED: THE CARDS: each row of YtndlcimckfndiaaDoorRows.lean that lists a variable, with what it lists TIED to the program's text (the seventh form; the later family's looks); each row that meets fmt, with fmt's text TOLD by the authors' own Lean function (tested against real Go, not proved from fmt's source: count such statements apart). THE CARD IS WHAT COUNTS. Prove the row's statement (the work); the ties are given (YtndlcimckfndiaaDoorTie.lean); close each card by the builder's one call (the guide's Derived/Test/ToyasCard.lean, 'card_holds'). Laid BY PROGRAM, IN A SANDBOX (cutbox-door.mjs). By AI agents, Wed Nov 11 2026. No macro, syntax, notation, axiom, sorry.
-/
import Derived.Test.YtndlcimckfndiaaDoorRows
import GoSem.ClaimSeven
namespace Go.Proofs.YtndlcimckfndiaaDoor
namespace Rows

/-- THE TIED CARD OF 'telltalelaw06.WireVectors'. -/
def wireVectorsCard : Claim7 := { stood := { row := wireVectorsRow, standIns := [], harness := (true, "bfbfd94d8fc40806e19902871dc7726bf3e87fa6200d18c2edcdf52761c675f8"), looks := false }, kinds := [], alts := [], laidByText := true, laidKinds := [.data], laidTests := true, laidLooks := .later }
def WireVectorsCardSaid : Prop := Claim7.holds Tryd.pinned (.plain (OpenSpec.ofChange wireVectorsSpec)) wireVectorsCard

/-- THE TIED CARD OF 'telltalelaw06.WireSets'. -/
def wireSetsCard : Claim7 := { stood := { row := wireSetsRow, standIns := [], harness := (true, "bfbfd94d8fc40806e19902871dc7726bf3e87fa6200d18c2edcdf52761c675f8"), looks := false }, kinds := [], alts := [], laidByText := true, laidKinds := [.data], laidTests := true, laidLooks := .later }
def WireSetsCardSaid : Prop := Claim7.holds Tryd.pinned (.plain (OpenSpec.ofChange wireSetsSpec)) wireSetsCard

/-- THE TIED CARD OF 'telltalelaw06.WireNotes'. -/
def wireNotesCard : Claim7 := { stood := { row := wireNotesRow, standIns := [], harness := (true, "bfbfd94d8fc40806e19902871dc7726bf3e87fa6200d18c2edcdf52761c675f8"), looks := false }, kinds := [], alts := [], laidByText := true, laidKinds := [.data], laidTests := true, laidLooks := .later }
def WireNotesCardSaid : Prop := Claim7.holds Tryd.pinned (.plain (OpenSpec.ofChange wireNotesSpec)) wireNotesCard

/-- THE TIED CARD OF 'telltalelaw06.WireBodies'. -/
def wireBodiesCard : Claim7 := { stood := { row := wireBodiesRow, standIns := [], harness := (true, "bfbfd94d8fc40806e19902871dc7726bf3e87fa6200d18c2edcdf52761c675f8"), looks := false }, kinds := [], alts := [], laidByText := true, laidKinds := [.data], laidTests := true, laidLooks := .later }
def WireBodiesCardSaid : Prop := Claim7.holds Tryd.pinned (.plain (OpenSpec.ofChange wireBodiesSpec)) wireBodiesCard

/-- THE TIED CARD OF 'telltalelaw06.WireMsgs'. -/
def wireMsgsCard : Claim7 := { stood := { row := wireMsgsRow, standIns := [], harness := (true, "bfbfd94d8fc40806e19902871dc7726bf3e87fa6200d18c2edcdf52761c675f8"), looks := false }, kinds := [], alts := [], laidByText := true, laidKinds := [.data], laidTests := true, laidLooks := .later }
def WireMsgsCardSaid : Prop := Claim7.holds Tryd.pinned (.plain (OpenSpec.ofChange wireMsgsSpec)) wireMsgsCard

/-- THE TIED CARD OF 'telltalelaw06.WireReads'. -/
def wireReadsCard : Claim7 := { stood := { row := wireReadsRow, standIns := [], harness := (true, "bfbfd94d8fc40806e19902871dc7726bf3e87fa6200d18c2edcdf52761c675f8"), looks := false }, kinds := [], alts := [], laidByText := true, laidKinds := [.data], laidTests := true, laidLooks := .later }
def WireReadsCardSaid : Prop := Claim7.holds Tryd.pinned (.plain (OpenSpec.ofChange wireReadsSpec)) wireReadsCard

/-- THE TIED CARD OF 'telltalelaw06.WireBack'. -/
def wireBackCard : Claim7 := { stood := { row := wireBackRow, standIns := [], harness := (true, "bfbfd94d8fc40806e19902871dc7726bf3e87fa6200d18c2edcdf52761c675f8"), looks := false }, kinds := [], alts := [], laidByText := true, laidKinds := [.data], laidTests := true, laidLooks := .later }
def WireBackCardSaid : Prop := Claim7.holds Tryd.pinned (.plain (OpenSpec.ofChange wireBackSpec)) wireBackCard

/-- THE SECOND FORM's CARD OF 'telltalelaw06.WireVectors'. -/
def wireVectorsUptoCard : Claim7 := { stood := { row := wireVectorsUptoRow, standIns := [], harness := (true, "bfbfd94d8fc40806e19902871dc7726bf3e87fa6200d18c2edcdf52761c675f8"), looks := false }, kinds := [], alts := [], laidByText := true, laidKinds := [.data], laidTests := true, laidLooks := .later }
def WireVectorsUptoCardSaid : Prop := Claim7.holds Tryd.pinned (.plain (OpenSpec.upto wireVectorsSpec)) wireVectorsUptoCard

/-- THE SECOND FORM's CARD OF 'telltalelaw06.WireSets'. -/
def wireSetsUptoCard : Claim7 := { stood := { row := wireSetsUptoRow, standIns := [], harness := (true, "bfbfd94d8fc40806e19902871dc7726bf3e87fa6200d18c2edcdf52761c675f8"), looks := false }, kinds := [], alts := [], laidByText := true, laidKinds := [.data], laidTests := true, laidLooks := .later }
def WireSetsUptoCardSaid : Prop := Claim7.holds Tryd.pinned (.plain (OpenSpec.upto wireSetsSpec)) wireSetsUptoCard

/-- THE SECOND FORM's CARD OF 'telltalelaw06.WireNotes'. -/
def wireNotesUptoCard : Claim7 := { stood := { row := wireNotesUptoRow, standIns := [], harness := (true, "bfbfd94d8fc40806e19902871dc7726bf3e87fa6200d18c2edcdf52761c675f8"), looks := false }, kinds := [], alts := [], laidByText := true, laidKinds := [.data], laidTests := true, laidLooks := .later }
def WireNotesUptoCardSaid : Prop := Claim7.holds Tryd.pinned (.plain (OpenSpec.upto wireNotesSpec)) wireNotesUptoCard

/-- THE SECOND FORM's CARD OF 'telltalelaw06.WireBodies'. -/
def wireBodiesUptoCard : Claim7 := { stood := { row := wireBodiesUptoRow, standIns := [], harness := (true, "bfbfd94d8fc40806e19902871dc7726bf3e87fa6200d18c2edcdf52761c675f8"), looks := false }, kinds := [], alts := [], laidByText := true, laidKinds := [.data], laidTests := true, laidLooks := .later }
def WireBodiesUptoCardSaid : Prop := Claim7.holds Tryd.pinned (.plain (OpenSpec.upto wireBodiesSpec)) wireBodiesUptoCard

/-- THE SECOND FORM's CARD OF 'telltalelaw06.WireMsgs'. -/
def wireMsgsUptoCard : Claim7 := { stood := { row := wireMsgsUptoRow, standIns := [], harness := (true, "bfbfd94d8fc40806e19902871dc7726bf3e87fa6200d18c2edcdf52761c675f8"), looks := false }, kinds := [], alts := [], laidByText := true, laidKinds := [.data], laidTests := true, laidLooks := .later }
def WireMsgsUptoCardSaid : Prop := Claim7.holds Tryd.pinned (.plain (OpenSpec.upto wireMsgsSpec)) wireMsgsUptoCard

/-- THE SECOND FORM's CARD OF 'telltalelaw06.WireReads'. -/
def wireReadsUptoCard : Claim7 := { stood := { row := wireReadsUptoRow, standIns := [], harness := (true, "bfbfd94d8fc40806e19902871dc7726bf3e87fa6200d18c2edcdf52761c675f8"), looks := false }, kinds := [], alts := [], laidByText := true, laidKinds := [.data], laidTests := true, laidLooks := .later }
def WireReadsUptoCardSaid : Prop := Claim7.holds Tryd.pinned (.plain (OpenSpec.upto wireReadsSpec)) wireReadsUptoCard

/-- THE SECOND FORM's CARD OF 'telltalelaw06.WireBack'. -/
def wireBackUptoCard : Claim7 := { stood := { row := wireBackUptoRow, standIns := [], harness := (true, "bfbfd94d8fc40806e19902871dc7726bf3e87fa6200d18c2edcdf52761c675f8"), looks := false }, kinds := [], alts := [], laidByText := true, laidKinds := [.data], laidTests := true, laidLooks := .later }
def WireBackUptoCardSaid : Prop := Claim7.holds Tryd.pinned (.plain (OpenSpec.upto wireBackSpec)) wireBackUptoCard
end Rows
end Go.Proofs.YtndlcimckfndiaaDoor
