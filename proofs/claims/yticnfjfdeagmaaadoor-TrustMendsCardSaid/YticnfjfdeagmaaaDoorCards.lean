/-
  DERIVED. GIVEN WITH THE SEED: THE CARDS: each row of YticnfjfdeagmaaaDoorRows.lean that lists a variable, with what it lists TIED to the program's text (the seventh form; the later family's looks); each row that meets fmt, with fmt's text TOLD by the authors' own Lean function (tested against real Go, not proved from fmt's source: count such statements apart). THE CARD IS WHAT COUNTS. Prove the row's statement (the work); the ties are given (YticnfjfdeagmaaaDoorTie.lean); close each card by the builder's one call (the guide's Derived/Test/ToyasCard.lean, 'card_holds'). Laid BY PROGRAM, IN A SANDBOX (cutbox-door.mjs). By AI agents, Wed Nov 11 2026. No macro, syntax, notation, axiom, sorry.
-/
import Derived.Test.YticnfjfdeagmaaaDoorRows
import GoSem.ClaimSeven
namespace Go.Proofs.YticnfjfdeagmaaaDoor
namespace Rows

/-- THE TIED CARD OF 'telltalelaw10.TrustTwice'. -/
def trustTwiceCard : Claim7 := { stood := { row := trustTwiceRow, standIns := [], harness := (true, "07dd3b0ee6c1263344f21c5f376bd8afc851e0283cc3cd8d95d8e07516708372"), looks := false }, kinds := [], alts := [], laidByText := true, laidKinds := [.data], laidTests := true, laidLooks := .later }
def TrustTwiceCardSaid : Prop := Claim7.holds Tryd.pinned (.plain (OpenSpec.ofChange trustTwiceSpec)) trustTwiceCard

/-- THE TIED CARD OF 'telltalelaw10.TrustForms'. -/
def trustFormsCard : Claim7 := { stood := { row := trustFormsRow, standIns := [], harness := (true, "07dd3b0ee6c1263344f21c5f376bd8afc851e0283cc3cd8d95d8e07516708372"), looks := false }, kinds := [], alts := [], laidByText := true, laidKinds := [.data], laidTests := true, laidLooks := .later }
def TrustFormsCardSaid : Prop := Claim7.holds Tryd.pinned (.plain (OpenSpec.ofChange trustFormsSpec)) trustFormsCard

/-- THE TIED CARD OF 'telltalelaw10.TrustSharp'. -/
def trustSharpCard : Claim7 := { stood := { row := trustSharpRow, standIns := [], harness := (true, "07dd3b0ee6c1263344f21c5f376bd8afc851e0283cc3cd8d95d8e07516708372"), looks := false }, kinds := [], alts := [], laidByText := true, laidKinds := [.data], laidTests := true, laidLooks := .later }
def TrustSharpCardSaid : Prop := Claim7.holds Tryd.pinned (.plain (OpenSpec.ofChange trustSharpSpec)) trustSharpCard

/-- THE TIED CARD OF 'telltalelaw10.TrustSinces'. -/
def trustSincesCard : Claim7 := { stood := { row := trustSincesRow, standIns := [], harness := (true, "07dd3b0ee6c1263344f21c5f376bd8afc851e0283cc3cd8d95d8e07516708372"), looks := false }, kinds := [], alts := [], laidByText := true, laidKinds := [.data], laidTests := true, laidLooks := .later }
def TrustSincesCardSaid : Prop := Claim7.holds Tryd.pinned (.plain (OpenSpec.ofChange trustSincesSpec)) trustSincesCard

/-- THE TIED CARD OF 'telltalelaw10.TrustMends'. -/
def trustMendsCard : Claim7 := { stood := { row := trustMendsRow, standIns := [], harness := (true, "07dd3b0ee6c1263344f21c5f376bd8afc851e0283cc3cd8d95d8e07516708372"), looks := false }, kinds := [], alts := [], laidByText := true, laidKinds := [.data], laidTests := true, laidLooks := .later }
def TrustMendsCardSaid : Prop := Claim7.holds Tryd.pinned (.plain (OpenSpec.ofChange trustMendsSpec)) trustMendsCard

/-- THE SECOND FORM's CARD OF 'telltalelaw10.TrustTwice'. -/
def trustTwiceUptoCard : Claim7 := { stood := { row := trustTwiceUptoRow, standIns := [], harness := (true, "07dd3b0ee6c1263344f21c5f376bd8afc851e0283cc3cd8d95d8e07516708372"), looks := false }, kinds := [], alts := [], laidByText := true, laidKinds := [.data], laidTests := true, laidLooks := .later }
def TrustTwiceUptoCardSaid : Prop := Claim7.holds Tryd.pinned (.plain (OpenSpec.upto trustTwiceSpec)) trustTwiceUptoCard

/-- THE SECOND FORM's CARD OF 'telltalelaw10.TrustForms'. -/
def trustFormsUptoCard : Claim7 := { stood := { row := trustFormsUptoRow, standIns := [], harness := (true, "07dd3b0ee6c1263344f21c5f376bd8afc851e0283cc3cd8d95d8e07516708372"), looks := false }, kinds := [], alts := [], laidByText := true, laidKinds := [.data], laidTests := true, laidLooks := .later }
def TrustFormsUptoCardSaid : Prop := Claim7.holds Tryd.pinned (.plain (OpenSpec.upto trustFormsSpec)) trustFormsUptoCard

/-- THE SECOND FORM's CARD OF 'telltalelaw10.TrustSharp'. -/
def trustSharpUptoCard : Claim7 := { stood := { row := trustSharpUptoRow, standIns := [], harness := (true, "07dd3b0ee6c1263344f21c5f376bd8afc851e0283cc3cd8d95d8e07516708372"), looks := false }, kinds := [], alts := [], laidByText := true, laidKinds := [.data], laidTests := true, laidLooks := .later }
def TrustSharpUptoCardSaid : Prop := Claim7.holds Tryd.pinned (.plain (OpenSpec.upto trustSharpSpec)) trustSharpUptoCard

/-- THE SECOND FORM's CARD OF 'telltalelaw10.TrustSinces'. -/
def trustSincesUptoCard : Claim7 := { stood := { row := trustSincesUptoRow, standIns := [], harness := (true, "07dd3b0ee6c1263344f21c5f376bd8afc851e0283cc3cd8d95d8e07516708372"), looks := false }, kinds := [], alts := [], laidByText := true, laidKinds := [.data], laidTests := true, laidLooks := .later }
def TrustSincesUptoCardSaid : Prop := Claim7.holds Tryd.pinned (.plain (OpenSpec.upto trustSincesSpec)) trustSincesUptoCard

/-- THE SECOND FORM's CARD OF 'telltalelaw10.TrustMends'. -/
def trustMendsUptoCard : Claim7 := { stood := { row := trustMendsUptoRow, standIns := [], harness := (true, "07dd3b0ee6c1263344f21c5f376bd8afc851e0283cc3cd8d95d8e07516708372"), looks := false }, kinds := [], alts := [], laidByText := true, laidKinds := [.data], laidTests := true, laidLooks := .later }
def TrustMendsUptoCardSaid : Prop := Claim7.holds Tryd.pinned (.plain (OpenSpec.upto trustMendsSpec)) trustMendsUptoCard
end Rows
end Go.Proofs.YticnfjfdeagmaaaDoor
