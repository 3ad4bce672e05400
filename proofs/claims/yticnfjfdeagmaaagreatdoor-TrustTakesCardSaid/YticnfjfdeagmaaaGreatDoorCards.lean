/-
  DERIVED. GIVEN WITH THE SEED: THE CARDS: each row of YticnfjfdeagmaaaGreatDoorRows.lean that lists a variable, with what it lists TIED to the program's text (the seventh form; the later family's looks); each row that meets fmt, with fmt's text TOLD by the authors' own Lean function (tested against real Go, not proved from fmt's source: count such statements apart). THE CARD IS WHAT COUNTS. Prove the row's statement (the work); the ties are given (YticnfjfdeagmaaaGreatDoorTie.lean); close each card by the builder's one call (the guide's Derived/Test/ToyasCard.lean, 'card_holds'). Laid BY PROGRAM, IN A SANDBOX (cutbox-door.mjs). By AI agents, Wed Nov 11 2026. No macro, syntax, notation, axiom, sorry.
-/
import Derived.Test.YticnfjfdeagmaaaGreatDoorRows
import GoSem.ClaimSeven
namespace Go.Proofs.YticnfjfdeagmaaaGreatDoor
namespace Rows

/-- THE TIED CARD OF 'telltalelaw10.TrustTakes'. -/
def trustTakesCard : Claim7 := { stood := { row := trustTakesRow, standIns := [], harness := (true, "ee95001b419ffdbd995cbb15dd76d13c36f46e3b6474d33a296cc3cb153764ae"), looks := false }, kinds := [], alts := [], laidByText := true, laidKinds := [.data], laidTests := true, laidLooks := .later }
def TrustTakesCardSaid : Prop := Claim7.holds Tryz.pinned (.plain (OpenSpec.ofChange trustTakesSpec)) trustTakesCard

/-- THE SECOND FORM's CARD OF 'telltalelaw10.TrustTakes'. -/
def trustTakesUptoCard : Claim7 := { stood := { row := trustTakesUptoRow, standIns := [], harness := (true, "ee95001b419ffdbd995cbb15dd76d13c36f46e3b6474d33a296cc3cb153764ae"), looks := false }, kinds := [], alts := [], laidByText := true, laidKinds := [.data], laidTests := true, laidLooks := .later }
def TrustTakesUptoCardSaid : Prop := Claim7.holds Tryz.pinned (.plain (OpenSpec.upto trustTakesSpec)) trustTakesUptoCard
end Rows
end Go.Proofs.YticnfjfdeagmaaaGreatDoor
