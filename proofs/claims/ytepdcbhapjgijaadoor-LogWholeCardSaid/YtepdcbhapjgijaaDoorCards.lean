/-
  DERIVED. GIVEN WITH THE SEED: THE CARDS: each row of YtepdcbhapjgijaaDoorRows.lean that lists a variable, with what it lists TIED to the program's text (the seventh form; the later family's looks); each row that meets fmt, with fmt's text TOLD by the authors' own Lean function (tested against real Go, not proved from fmt's source: count such statements apart). THE CARD IS WHAT COUNTS. Prove the row's statement (the work); the ties are given (YtepdcbhapjgijaaDoorTie.lean); close each card by the builder's one call (the guide's Derived/Test/ToyasCard.lean, 'card_holds'). Laid BY PROGRAM, IN A SANDBOX (cutbox-door.mjs). By AI agents, Wed Nov 11 2026. No macro, syntax, notation, axiom, sorry.
-/
import Derived.Test.YtepdcbhapjgijaaDoorRows
import GoSem.ClaimSeven
namespace Go.Proofs.YtepdcbhapjgijaaDoor
namespace Rows

/-- THE TIED CARD OF 'telltalelaw15.LogWhole'. -/
def logWholeCard : Claim7 := { stood := { row := logWholeRow, standIns := [], harness := (true, "cec2810e4be3b90e6c8ae96ddb0431de4f3d2ff34e067957eb041112f369ee78"), looks := false }, kinds := [], alts := [], laidByText := true, laidKinds := [.data], laidTests := true, laidLooks := .later }
def LogWholeCardSaid : Prop := Claim7.holds Tryd.pinned (.plain (OpenSpec.ofChange logWholeSpec)) logWholeCard

/-- THE SECOND FORM's CARD OF 'telltalelaw15.LogWhole'. -/
def logWholeUptoCard : Claim7 := { stood := { row := logWholeUptoRow, standIns := [], harness := (true, "cec2810e4be3b90e6c8ae96ddb0431de4f3d2ff34e067957eb041112f369ee78"), looks := false }, kinds := [], alts := [], laidByText := true, laidKinds := [.data], laidTests := true, laidLooks := .later }
def LogWholeUptoCardSaid : Prop := Claim7.holds Tryd.pinned (.plain (OpenSpec.upto logWholeSpec)) logWholeUptoCard
end Rows
end Go.Proofs.YtepdcbhapjgijaaDoor
