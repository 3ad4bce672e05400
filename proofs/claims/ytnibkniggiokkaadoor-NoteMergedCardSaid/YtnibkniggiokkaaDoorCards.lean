/-
  DERIVED. GIVEN WITH THE SEED: THE CARDS: each row of YtnibkniggiokkaaDoorRows.lean that lists a variable, with what it lists TIED to the program's text (the seventh form; the later family's looks); each row that meets fmt, with fmt's text TOLD by the authors' own Lean function (tested against real Go, not proved from fmt's source: count such statements apart). THE CARD IS WHAT COUNTS. Prove the row's statement (the work); the ties are given (YtnibkniggiokkaaDoorTie.lean); close each card by the builder's one call (the guide's Derived/Test/ToyasCard.lean, 'card_holds'). Laid BY PROGRAM, IN A SANDBOX (cutbox-door.mjs). By AI agents, Wed Nov 11 2026. No macro, syntax, notation, axiom, sorry.
-/
import Derived.Test.YtnibkniggiokkaaDoorRows
import GoSem.ClaimSeven
namespace Go.Proofs.YtnibkniggiokkaaDoor
namespace Rows

/-- THE TIED CARD OF 'telltalelaw04.NoteThroughs'. -/
def noteThroughsCard : Claim7 := { stood := { row := noteThroughsRow, standIns := [], harness := (true, "95289ec909e4c317ffa6bd269bb80de3f6dd10df8a463511a0c6a91e08abd78d"), looks := false }, kinds := [], alts := [], laidByText := true, laidKinds := [.data], laidTests := true, laidLooks := .later }
def NoteThroughsCardSaid : Prop := Claim7.holds Tryd.pinned (.plain (OpenSpec.ofChange noteThroughsSpec)) noteThroughsCard

/-- THE TIED CARD OF 'telltalelaw04.NoteTwice'. -/
def noteTwiceCard : Claim7 := { stood := { row := noteTwiceRow, standIns := [], harness := (true, "95289ec909e4c317ffa6bd269bb80de3f6dd10df8a463511a0c6a91e08abd78d"), looks := false }, kinds := [], alts := [], laidByText := true, laidKinds := [.data], laidTests := true, laidLooks := .later }
def NoteTwiceCardSaid : Prop := Claim7.holds Tryd.pinned (.plain (OpenSpec.ofChange noteTwiceSpec)) noteTwiceCard

/-- THE TIED CARD OF 'telltalelaw04.NoteMerges'. -/
def noteMergesCard : Claim7 := { stood := { row := noteMergesRow, standIns := [], harness := (true, "95289ec909e4c317ffa6bd269bb80de3f6dd10df8a463511a0c6a91e08abd78d"), looks := false }, kinds := [], alts := [], laidByText := true, laidKinds := [.data], laidTests := true, laidLooks := .later }
def NoteMergesCardSaid : Prop := Claim7.holds Tryd.pinned (.plain (OpenSpec.ofChange noteMergesSpec)) noteMergesCard

/-- THE TIED CARD OF 'telltalelaw04.NoteMerged'. -/
def noteMergedCard : Claim7 := { stood := { row := noteMergedRow, standIns := [], harness := (true, "95289ec909e4c317ffa6bd269bb80de3f6dd10df8a463511a0c6a91e08abd78d"), looks := false }, kinds := [], alts := [], laidByText := true, laidKinds := [.data], laidTests := true, laidLooks := .later }
def NoteMergedCardSaid : Prop := Claim7.holds Tryd.pinned (.plain (OpenSpec.ofChange noteMergedSpec)) noteMergedCard

/-- THE SECOND FORM's CARD OF 'telltalelaw04.NoteThroughs'. -/
def noteThroughsUptoCard : Claim7 := { stood := { row := noteThroughsUptoRow, standIns := [], harness := (true, "95289ec909e4c317ffa6bd269bb80de3f6dd10df8a463511a0c6a91e08abd78d"), looks := false }, kinds := [], alts := [], laidByText := true, laidKinds := [.data], laidTests := true, laidLooks := .later }
def NoteThroughsUptoCardSaid : Prop := Claim7.holds Tryd.pinned (.plain (OpenSpec.upto noteThroughsSpec)) noteThroughsUptoCard

/-- THE SECOND FORM's CARD OF 'telltalelaw04.NoteTwice'. -/
def noteTwiceUptoCard : Claim7 := { stood := { row := noteTwiceUptoRow, standIns := [], harness := (true, "95289ec909e4c317ffa6bd269bb80de3f6dd10df8a463511a0c6a91e08abd78d"), looks := false }, kinds := [], alts := [], laidByText := true, laidKinds := [.data], laidTests := true, laidLooks := .later }
def NoteTwiceUptoCardSaid : Prop := Claim7.holds Tryd.pinned (.plain (OpenSpec.upto noteTwiceSpec)) noteTwiceUptoCard

/-- THE SECOND FORM's CARD OF 'telltalelaw04.NoteMerges'. -/
def noteMergesUptoCard : Claim7 := { stood := { row := noteMergesUptoRow, standIns := [], harness := (true, "95289ec909e4c317ffa6bd269bb80de3f6dd10df8a463511a0c6a91e08abd78d"), looks := false }, kinds := [], alts := [], laidByText := true, laidKinds := [.data], laidTests := true, laidLooks := .later }
def NoteMergesUptoCardSaid : Prop := Claim7.holds Tryd.pinned (.plain (OpenSpec.upto noteMergesSpec)) noteMergesUptoCard

/-- THE SECOND FORM's CARD OF 'telltalelaw04.NoteMerged'. -/
def noteMergedUptoCard : Claim7 := { stood := { row := noteMergedUptoRow, standIns := [], harness := (true, "95289ec909e4c317ffa6bd269bb80de3f6dd10df8a463511a0c6a91e08abd78d"), looks := false }, kinds := [], alts := [], laidByText := true, laidKinds := [.data], laidTests := true, laidLooks := .later }
def NoteMergedUptoCardSaid : Prop := Claim7.holds Tryd.pinned (.plain (OpenSpec.upto noteMergedSpec)) noteMergedUptoCard
end Rows
end Go.Proofs.YtnibkniggiokkaaDoor
