/-
  DERIVED. GIVEN WITH THE SEED: THE CARDS: each row of YtppghbmggpbopaaDoorRows.lean that lists a variable, with what it lists TIED to the program's text (the seventh form; the later family's looks); each row that meets fmt, with fmt's text TOLD by the authors' own Lean function (tested against real Go, not proved from fmt's source: count such statements apart). THE CARD IS WHAT COUNTS. Prove the row's statement (the work); the ties are given (YtppghbmggpbopaaDoorTie.lean); close each card by the builder's one call (the guide's Derived/Test/ToyasCard.lean, 'card_holds'). Laid BY PROGRAM, IN A SANDBOX (cutbox-door.mjs). By AI agents, Wed Nov 11 2026. No macro, syntax, notation, axiom, sorry.
-/
import Derived.Test.YtppghbmggpbopaaDoorRows
import GoSem.ClaimSeven
namespace Go.Proofs.YtppghbmggpbopaaDoor
namespace Rows

/-- THE TIED CARD OF 'telltalelaw02.VectorWalks'. -/
def vectorWalksCard : Claim7 := { stood := { row := vectorWalksRow, standIns := [], harness := (true, "c250b254a45437c980873849f3e66adaeb87ebdda92c96205ed40b6d494d0bb2"), looks := false }, kinds := [], alts := [], laidByText := true, laidKinds := [.data], laidTests := true, laidLooks := .later }
def VectorWalksCardSaid : Prop := Claim7.holds Tryd.pinned (.plain (OpenSpec.ofChange vectorWalksSpec)) vectorWalksCard

/-- THE TIED CARD OF 'telltalelaw02.VectorWiths'. -/
def vectorWithsCard : Claim7 := { stood := { row := vectorWithsRow, standIns := [], harness := (true, "c250b254a45437c980873849f3e66adaeb87ebdda92c96205ed40b6d494d0bb2"), looks := false }, kinds := [], alts := [], laidByText := true, laidKinds := [.data], laidTests := true, laidLooks := .later }
def VectorWithsCardSaid : Prop := Claim7.holds Tryd.pinned (.plain (OpenSpec.ofChange vectorWithsSpec)) vectorWithsCard

/-- THE TIED CARD OF 'telltalelaw02.VectorJoins'. -/
def vectorJoinsCard : Claim7 := { stood := { row := vectorJoinsRow, standIns := [], harness := (true, "c250b254a45437c980873849f3e66adaeb87ebdda92c96205ed40b6d494d0bb2"), looks := false }, kinds := [], alts := [], laidByText := true, laidKinds := [.data], laidTests := true, laidLooks := .later }
def VectorJoinsCardSaid : Prop := Claim7.holds Tryd.pinned (.plain (OpenSpec.ofChange vectorJoinsSpec)) vectorJoinsCard

/-- THE TIED CARD OF 'telltalelaw02.VectorCounts'. -/
def vectorCountsCard : Claim7 := { stood := { row := vectorCountsRow, standIns := [], harness := (true, "c250b254a45437c980873849f3e66adaeb87ebdda92c96205ed40b6d494d0bb2"), looks := false }, kinds := [], alts := [], laidByText := true, laidKinds := [.data], laidTests := true, laidLooks := .later }
def VectorCountsCardSaid : Prop := Claim7.holds Tryd.pinned (.plain (OpenSpec.ofChange vectorCountsSpec)) vectorCountsCard

/-- THE TIED CARD OF 'telltalelaw02.VectorCovers'. -/
def vectorCoversCard : Claim7 := { stood := { row := vectorCoversRow, standIns := [], harness := (true, "c250b254a45437c980873849f3e66adaeb87ebdda92c96205ed40b6d494d0bb2"), looks := false }, kinds := [], alts := [], laidByText := true, laidKinds := [.data], laidTests := true, laidLooks := .later }
def VectorCoversCardSaid : Prop := Claim7.holds Tryd.pinned (.plain (OpenSpec.ofChange vectorCoversSpec)) vectorCoversCard

/-- THE TIED CARD OF 'telltalelaw02.VectorLattice'. -/
def vectorLatticeCard : Claim7 := { stood := { row := vectorLatticeRow, standIns := [], harness := (true, "c250b254a45437c980873849f3e66adaeb87ebdda92c96205ed40b6d494d0bb2"), looks := false }, kinds := [], alts := [], laidByText := true, laidKinds := [.data], laidTests := true, laidLooks := .later }
def VectorLatticeCardSaid : Prop := Claim7.holds Tryd.pinned (.plain (OpenSpec.ofChange vectorLatticeSpec)) vectorLatticeCard

/-- THE SECOND FORM's CARD OF 'telltalelaw02.VectorWalks'. -/
def vectorWalksUptoCard : Claim7 := { stood := { row := vectorWalksUptoRow, standIns := [], harness := (true, "c250b254a45437c980873849f3e66adaeb87ebdda92c96205ed40b6d494d0bb2"), looks := false }, kinds := [], alts := [], laidByText := true, laidKinds := [.data], laidTests := true, laidLooks := .later }
def VectorWalksUptoCardSaid : Prop := Claim7.holds Tryd.pinned (.plain (OpenSpec.upto vectorWalksSpec)) vectorWalksUptoCard

/-- THE SECOND FORM's CARD OF 'telltalelaw02.VectorWiths'. -/
def vectorWithsUptoCard : Claim7 := { stood := { row := vectorWithsUptoRow, standIns := [], harness := (true, "c250b254a45437c980873849f3e66adaeb87ebdda92c96205ed40b6d494d0bb2"), looks := false }, kinds := [], alts := [], laidByText := true, laidKinds := [.data], laidTests := true, laidLooks := .later }
def VectorWithsUptoCardSaid : Prop := Claim7.holds Tryd.pinned (.plain (OpenSpec.upto vectorWithsSpec)) vectorWithsUptoCard

/-- THE SECOND FORM's CARD OF 'telltalelaw02.VectorJoins'. -/
def vectorJoinsUptoCard : Claim7 := { stood := { row := vectorJoinsUptoRow, standIns := [], harness := (true, "c250b254a45437c980873849f3e66adaeb87ebdda92c96205ed40b6d494d0bb2"), looks := false }, kinds := [], alts := [], laidByText := true, laidKinds := [.data], laidTests := true, laidLooks := .later }
def VectorJoinsUptoCardSaid : Prop := Claim7.holds Tryd.pinned (.plain (OpenSpec.upto vectorJoinsSpec)) vectorJoinsUptoCard

/-- THE SECOND FORM's CARD OF 'telltalelaw02.VectorCounts'. -/
def vectorCountsUptoCard : Claim7 := { stood := { row := vectorCountsUptoRow, standIns := [], harness := (true, "c250b254a45437c980873849f3e66adaeb87ebdda92c96205ed40b6d494d0bb2"), looks := false }, kinds := [], alts := [], laidByText := true, laidKinds := [.data], laidTests := true, laidLooks := .later }
def VectorCountsUptoCardSaid : Prop := Claim7.holds Tryd.pinned (.plain (OpenSpec.upto vectorCountsSpec)) vectorCountsUptoCard

/-- THE SECOND FORM's CARD OF 'telltalelaw02.VectorCovers'. -/
def vectorCoversUptoCard : Claim7 := { stood := { row := vectorCoversUptoRow, standIns := [], harness := (true, "c250b254a45437c980873849f3e66adaeb87ebdda92c96205ed40b6d494d0bb2"), looks := false }, kinds := [], alts := [], laidByText := true, laidKinds := [.data], laidTests := true, laidLooks := .later }
def VectorCoversUptoCardSaid : Prop := Claim7.holds Tryd.pinned (.plain (OpenSpec.upto vectorCoversSpec)) vectorCoversUptoCard

/-- THE SECOND FORM's CARD OF 'telltalelaw02.VectorLattice'. -/
def vectorLatticeUptoCard : Claim7 := { stood := { row := vectorLatticeUptoRow, standIns := [], harness := (true, "c250b254a45437c980873849f3e66adaeb87ebdda92c96205ed40b6d494d0bb2"), looks := false }, kinds := [], alts := [], laidByText := true, laidKinds := [.data], laidTests := true, laidLooks := .later }
def VectorLatticeUptoCardSaid : Prop := Claim7.holds Tryd.pinned (.plain (OpenSpec.upto vectorLatticeSpec)) vectorLatticeUptoCard
end Rows
end Go.Proofs.YtppghbmggpbopaaDoor
