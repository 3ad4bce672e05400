/-
  DERIVED. GIVEN WITH THE SEED: THE CARDS: each row of YtmbeahbgafkjfaaGreatDoorRows.lean that lists a variable, with what it lists TIED to the program's text (the seventh form; the later family's looks); each row that meets fmt, with fmt's text TOLD by the authors' own Lean function (tested against real Go, not proved from fmt's source: count such statements apart). THE CARD IS WHAT COUNTS. Prove the row's statement (the work); the ties are given (YtmbeahbgafkjfaaGreatDoorTie.lean); close each card by the builder's one call (the guide's Derived/Test/ToyasCard.lean, 'card_holds'). Laid BY PROGRAM, IN A SANDBOX (cutbox-door.mjs). By AI agents, Wed Nov 11 2026. No macro, syntax, notation, axiom, sorry.
-/
import Derived.Test.YtmbeahbgafkjfaaGreatDoorRows
import GoSem.ClaimSeven
namespace Go.Proofs.YtmbeahbgafkjfaaGreatDoor
namespace Rows

/-- THE TIED CARD OF 'telltalelaw14.EntryEncodes'. -/
def entryEncodesCard : Claim7 := { stood := { row := entryEncodesRow, standIns := [], harness := (true, "a62774505144e6b125b6e13f213f9c303df2515a98aabd59dc126fa53d4902df"), looks := true }, kinds := [], alts := [], laidByText := true, laidKinds := [.data], laidTests := true, laidLooks := .later }
def EntryEncodesCardSaid : Prop := Claim7.holds Tryz.pinned (.plain (OpenSpec.ofChange entryEncodesSpec)) entryEncodesCard

/-- THE TIED CARD OF 'telltalelaw14.EntryDecodes'. -/
def entryDecodesCard : Claim7 := { stood := { row := entryDecodesRow, standIns := [], harness := (true, "a62774505144e6b125b6e13f213f9c303df2515a98aabd59dc126fa53d4902df"), looks := true }, kinds := [], alts := [], laidByText := true, laidKinds := [.data], laidTests := true, laidLooks := .later }
def EntryDecodesCardSaid : Prop := Claim7.holds Tryz.pinned (.plain (OpenSpec.ofChange entryDecodesSpec)) entryDecodesCard

/-- THE TIED CARD OF 'telltalelaw14.EntryPlays'. -/
def entryPlaysCard : Claim7 := { stood := { row := entryPlaysRow, standIns := [], harness := (true, "a62774505144e6b125b6e13f213f9c303df2515a98aabd59dc126fa53d4902df"), looks := true }, kinds := [], alts := [], laidByText := true, laidKinds := [.data], laidTests := true, laidLooks := .later }
def EntryPlaysCardSaid : Prop := Claim7.holds Tryz.pinned (.plain (OpenSpec.ofChange entryPlaysSpec)) entryPlaysCard

/-- THE TIED CARD OF 'telltalelaw14.EntryBack'. -/
def entryBackCard : Claim7 := { stood := { row := entryBackRow, standIns := [], harness := (true, "a62774505144e6b125b6e13f213f9c303df2515a98aabd59dc126fa53d4902df"), looks := true }, kinds := [], alts := [], laidByText := true, laidKinds := [.data], laidTests := true, laidLooks := .later }
def EntryBackCardSaid : Prop := Claim7.holds Tryz.pinned (.plain (OpenSpec.ofChange entryBackSpec)) entryBackCard

/-- THE TIED CARD OF 'telltalelaw14.EntryChecks'. -/
def entryChecksCard : Claim7 := { stood := { row := entryChecksRow, standIns := [], harness := (true, "a62774505144e6b125b6e13f213f9c303df2515a98aabd59dc126fa53d4902df"), looks := true }, kinds := [], alts := [], laidByText := true, laidKinds := [.data], laidTests := true, laidLooks := .later }
def EntryChecksCardSaid : Prop := Claim7.holds Tryz.pinned (.plain (OpenSpec.ofChange entryChecksSpec)) entryChecksCard

/-- THE SECOND FORM's CARD OF 'telltalelaw14.EntryEncodes'. -/
def entryEncodesUptoCard : Claim7 := { stood := { row := entryEncodesUptoRow, standIns := [], harness := (true, "a62774505144e6b125b6e13f213f9c303df2515a98aabd59dc126fa53d4902df"), looks := true }, kinds := [], alts := [], laidByText := true, laidKinds := [.data], laidTests := true, laidLooks := .later }
def EntryEncodesUptoCardSaid : Prop := Claim7.holds Tryz.pinned (.plain (OpenSpec.upto entryEncodesSpec)) entryEncodesUptoCard

/-- THE SECOND FORM's CARD OF 'telltalelaw14.EntryDecodes'. -/
def entryDecodesUptoCard : Claim7 := { stood := { row := entryDecodesUptoRow, standIns := [], harness := (true, "a62774505144e6b125b6e13f213f9c303df2515a98aabd59dc126fa53d4902df"), looks := true }, kinds := [], alts := [], laidByText := true, laidKinds := [.data], laidTests := true, laidLooks := .later }
def EntryDecodesUptoCardSaid : Prop := Claim7.holds Tryz.pinned (.plain (OpenSpec.upto entryDecodesSpec)) entryDecodesUptoCard

/-- THE SECOND FORM's CARD OF 'telltalelaw14.EntryPlays'. -/
def entryPlaysUptoCard : Claim7 := { stood := { row := entryPlaysUptoRow, standIns := [], harness := (true, "a62774505144e6b125b6e13f213f9c303df2515a98aabd59dc126fa53d4902df"), looks := true }, kinds := [], alts := [], laidByText := true, laidKinds := [.data], laidTests := true, laidLooks := .later }
def EntryPlaysUptoCardSaid : Prop := Claim7.holds Tryz.pinned (.plain (OpenSpec.upto entryPlaysSpec)) entryPlaysUptoCard

/-- THE SECOND FORM's CARD OF 'telltalelaw14.EntryBack'. -/
def entryBackUptoCard : Claim7 := { stood := { row := entryBackUptoRow, standIns := [], harness := (true, "a62774505144e6b125b6e13f213f9c303df2515a98aabd59dc126fa53d4902df"), looks := true }, kinds := [], alts := [], laidByText := true, laidKinds := [.data], laidTests := true, laidLooks := .later }
def EntryBackUptoCardSaid : Prop := Claim7.holds Tryz.pinned (.plain (OpenSpec.upto entryBackSpec)) entryBackUptoCard

/-- THE SECOND FORM's CARD OF 'telltalelaw14.EntryChecks'. -/
def entryChecksUptoCard : Claim7 := { stood := { row := entryChecksUptoRow, standIns := [], harness := (true, "a62774505144e6b125b6e13f213f9c303df2515a98aabd59dc126fa53d4902df"), looks := true }, kinds := [], alts := [], laidByText := true, laidKinds := [.data], laidTests := true, laidLooks := .later }
def EntryChecksUptoCardSaid : Prop := Claim7.holds Tryz.pinned (.plain (OpenSpec.upto entryChecksSpec)) entryChecksUptoCard
end Rows
end Go.Proofs.YtmbeahbgafkjfaaGreatDoor
