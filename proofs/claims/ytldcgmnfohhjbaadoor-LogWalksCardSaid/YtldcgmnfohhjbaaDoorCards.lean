/-
  DERIVED. GIVEN WITH THE SEED: THE CARDS: each row of YtldcgmnfohhjbaaDoorRows.lean that lists a variable, with what it lists TIED to the program's text (the seventh form; the later family's looks); each row that meets fmt, with fmt's text TOLD by the authors' own Lean function (tested against real Go, not proved from fmt's source: count such statements apart). THE CARD IS WHAT COUNTS. Prove the row's statement (the work); the ties are given (YtldcgmnfohhjbaaDoorTie.lean); close each card by the builder's one call (the guide's Derived/Test/ToyasCard.lean, 'card_holds'). Laid BY PROGRAM, IN A SANDBOX (cutbox-door.mjs). By AI agents, Wed Nov 11 2026. No macro, syntax, notation, axiom, sorry.
-/
import Derived.Test.YtldcgmnfohhjbaaDoorRows
import GoSem.ClaimSeven
namespace Go.Proofs.YtldcgmnfohhjbaaDoor
namespace Rows

/-- THE TIED CARD OF 'telltalelaw04.NoteOfs'. -/
def noteOfsCard : Claim7 := { stood := { row := noteOfsRow, standIns := [], harness := (true, "2947ffa9ccb6acceac4c673f0628aff05b04214c4dd4c3bcd2bc8f1c8907908f"), looks := false }, kinds := [], alts := [], laidByText := true, laidKinds := [.data], laidTests := true, laidLooks := .later }
def NoteOfsCardSaid : Prop := Claim7.holds Tryd.pinned (.plain (OpenSpec.ofChange noteOfsSpec)) noteOfsCard

/-- THE TIED CARD OF 'telltalelaw04.NoteForms'. -/
def noteFormsCard : Claim7 := { stood := { row := noteFormsRow, standIns := [], harness := (true, "2947ffa9ccb6acceac4c673f0628aff05b04214c4dd4c3bcd2bc8f1c8907908f"), looks := false }, kinds := [], alts := [], laidByText := true, laidKinds := [.data], laidTests := true, laidLooks := .later }
def NoteFormsCardSaid : Prop := Claim7.holds Tryd.pinned (.plain (OpenSpec.ofChange noteFormsSpec)) noteFormsCard

/-- THE TIED CARD OF 'telltalelaw04.NoteTells'. -/
def noteTellsCard : Claim7 := { stood := { row := noteTellsRow, standIns := [], harness := (true, "2947ffa9ccb6acceac4c673f0628aff05b04214c4dd4c3bcd2bc8f1c8907908f"), looks := false }, kinds := [], alts := [], laidByText := true, laidKinds := [.data], laidTests := true, laidLooks := .later }
def NoteTellsCardSaid : Prop := Claim7.holds Tryd.pinned (.plain (OpenSpec.ofChange noteTellsSpec)) noteTellsCard

/-- THE TIED CARD OF 'telltalelaw15.LogForms'. -/
def logFormsCard : Claim7 := { stood := { row := logFormsRow, standIns := [], harness := (true, "2947ffa9ccb6acceac4c673f0628aff05b04214c4dd4c3bcd2bc8f1c8907908f"), looks := false }, kinds := [], alts := [], laidByText := true, laidKinds := [.data], laidTests := true, laidLooks := .later }
def LogFormsCardSaid : Prop := Claim7.holds Tryd.pinned (.plain (OpenSpec.ofChange logFormsSpec)) logFormsCard

/-- THE TIED CARD OF 'telltalelaw15.LogAppends'. -/
def logAppendsCard : Claim7 := { stood := { row := logAppendsRow, standIns := [], harness := (true, "2947ffa9ccb6acceac4c673f0628aff05b04214c4dd4c3bcd2bc8f1c8907908f"), looks := false }, kinds := [], alts := [], laidByText := true, laidKinds := [.data], laidTests := true, laidLooks := .later }
def LogAppendsCardSaid : Prop := Claim7.holds Tryd.pinned (.plain (OpenSpec.ofChange logAppendsSpec)) logAppendsCard

/-- THE TIED CARD OF 'telltalelaw15.LogWalks'. -/
def logWalksCard : Claim7 := { stood := { row := logWalksRow, standIns := [], harness := (true, "2947ffa9ccb6acceac4c673f0628aff05b04214c4dd4c3bcd2bc8f1c8907908f"), looks := false }, kinds := [], alts := [], laidByText := true, laidKinds := [.data], laidTests := true, laidLooks := .later }
def LogWalksCardSaid : Prop := Claim7.holds Tryd.pinned (.plain (OpenSpec.ofChange logWalksSpec)) logWalksCard

/-- THE TIED CARD OF 'telltalelaw15.LogCuts'. -/
def logCutsCard : Claim7 := { stood := { row := logCutsRow, standIns := [], harness := (true, "2947ffa9ccb6acceac4c673f0628aff05b04214c4dd4c3bcd2bc8f1c8907908f"), looks := false }, kinds := [], alts := [], laidByText := true, laidKinds := [.data], laidTests := true, laidLooks := .later }
def LogCutsCardSaid : Prop := Claim7.holds Tryd.pinned (.plain (OpenSpec.ofChange logCutsSpec)) logCutsCard

/-- THE SECOND FORM's CARD OF 'telltalelaw04.NoteOfs'. -/
def noteOfsUptoCard : Claim7 := { stood := { row := noteOfsUptoRow, standIns := [], harness := (true, "2947ffa9ccb6acceac4c673f0628aff05b04214c4dd4c3bcd2bc8f1c8907908f"), looks := false }, kinds := [], alts := [], laidByText := true, laidKinds := [.data], laidTests := true, laidLooks := .later }
def NoteOfsUptoCardSaid : Prop := Claim7.holds Tryd.pinned (.plain (OpenSpec.upto noteOfsSpec)) noteOfsUptoCard

/-- THE SECOND FORM's CARD OF 'telltalelaw04.NoteForms'. -/
def noteFormsUptoCard : Claim7 := { stood := { row := noteFormsUptoRow, standIns := [], harness := (true, "2947ffa9ccb6acceac4c673f0628aff05b04214c4dd4c3bcd2bc8f1c8907908f"), looks := false }, kinds := [], alts := [], laidByText := true, laidKinds := [.data], laidTests := true, laidLooks := .later }
def NoteFormsUptoCardSaid : Prop := Claim7.holds Tryd.pinned (.plain (OpenSpec.upto noteFormsSpec)) noteFormsUptoCard

/-- THE SECOND FORM's CARD OF 'telltalelaw04.NoteTells'. -/
def noteTellsUptoCard : Claim7 := { stood := { row := noteTellsUptoRow, standIns := [], harness := (true, "2947ffa9ccb6acceac4c673f0628aff05b04214c4dd4c3bcd2bc8f1c8907908f"), looks := false }, kinds := [], alts := [], laidByText := true, laidKinds := [.data], laidTests := true, laidLooks := .later }
def NoteTellsUptoCardSaid : Prop := Claim7.holds Tryd.pinned (.plain (OpenSpec.upto noteTellsSpec)) noteTellsUptoCard

/-- THE SECOND FORM's CARD OF 'telltalelaw15.LogForms'. -/
def logFormsUptoCard : Claim7 := { stood := { row := logFormsUptoRow, standIns := [], harness := (true, "2947ffa9ccb6acceac4c673f0628aff05b04214c4dd4c3bcd2bc8f1c8907908f"), looks := false }, kinds := [], alts := [], laidByText := true, laidKinds := [.data], laidTests := true, laidLooks := .later }
def LogFormsUptoCardSaid : Prop := Claim7.holds Tryd.pinned (.plain (OpenSpec.upto logFormsSpec)) logFormsUptoCard

/-- THE SECOND FORM's CARD OF 'telltalelaw15.LogAppends'. -/
def logAppendsUptoCard : Claim7 := { stood := { row := logAppendsUptoRow, standIns := [], harness := (true, "2947ffa9ccb6acceac4c673f0628aff05b04214c4dd4c3bcd2bc8f1c8907908f"), looks := false }, kinds := [], alts := [], laidByText := true, laidKinds := [.data], laidTests := true, laidLooks := .later }
def LogAppendsUptoCardSaid : Prop := Claim7.holds Tryd.pinned (.plain (OpenSpec.upto logAppendsSpec)) logAppendsUptoCard

/-- THE SECOND FORM's CARD OF 'telltalelaw15.LogWalks'. -/
def logWalksUptoCard : Claim7 := { stood := { row := logWalksUptoRow, standIns := [], harness := (true, "2947ffa9ccb6acceac4c673f0628aff05b04214c4dd4c3bcd2bc8f1c8907908f"), looks := false }, kinds := [], alts := [], laidByText := true, laidKinds := [.data], laidTests := true, laidLooks := .later }
def LogWalksUptoCardSaid : Prop := Claim7.holds Tryd.pinned (.plain (OpenSpec.upto logWalksSpec)) logWalksUptoCard

/-- THE SECOND FORM's CARD OF 'telltalelaw15.LogCuts'. -/
def logCutsUptoCard : Claim7 := { stood := { row := logCutsUptoRow, standIns := [], harness := (true, "2947ffa9ccb6acceac4c673f0628aff05b04214c4dd4c3bcd2bc8f1c8907908f"), looks := false }, kinds := [], alts := [], laidByText := true, laidKinds := [.data], laidTests := true, laidLooks := .later }
def LogCutsUptoCardSaid : Prop := Claim7.holds Tryd.pinned (.plain (OpenSpec.upto logCutsSpec)) logCutsUptoCard
end Rows
end Go.Proofs.YtldcgmnfohhjbaaDoor
