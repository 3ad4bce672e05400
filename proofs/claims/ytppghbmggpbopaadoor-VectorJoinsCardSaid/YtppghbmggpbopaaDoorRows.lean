/-
  NARROWER THAN 'FOR EVERY INPUT', by the rows' own cells (each row's printed sentence says how): VectorWalks: laid · VectorWiths: laid · VectorJoins: laid · VectorCounts: laid · VectorCovers: laid · VectorLattice: laid.
  DERIVED. THE GIVEN ROWS OF THIS SEAT. 6 by the template 'for every input the law returns true; each argument reads behind the call as it read before'; 0 by the template 'total and deterministic' (their statements: YtppghbmggpbopaaDoorTotals.lean).
  GIVEN WITH THE SEED: the statements are not yours to turn. If you find one false, say at which input.
  Laid BY PROGRAM, IN A SANDBOX (cutbox-rows.mjs): the forced cells as the released guide's own fill.sh prints them over the translation d8b28270eec6dbbd… (all of the seat's roots in one cut). By AI agents, Wed Nov 11 2026. No macro, syntax, notation, axiom, sorry.
-/
import Derived.Test.YtppghbmggpbopaaDoorChecked
import GoSem.Claim
import GoSem.ClaimJoined
import GoSem.ClaimMapViews
import Derived.JoinedTies
import Derived.KernelRfl
namespace Go.Proofs.YtppghbmggpbopaaDoor
/- THE CELL 'sum', in the pinned program and in every row, IS THE sha256 OF THE DUMP (.gsa) THAT YtppghbmggpbopaaDoorProg.lean LOADS. Nothing in Lean hashes anything: it is a label: what it is worth is what the hold of that sum in a sandbox is worth. -/
noncomputable def Tryd.pinned : Pinned := { name := "ytppghbmggpbopaadoor", sum := "d8b28270eec6dbbd1485e70dc53bd0472ee54d20066b097c26bde92f1805259a", checked := Tryd.checked }
namespace Rows
def none {H : Type} : Left H := { results := [], args := [] }

/- WHAT THE LISTED PACKAGE-LEVEL VARIABLES READ AS WHEN THE CALL BEGINS. Each datum BY PROGRAM (the guide's laid-datum.mjs) off the statement by which the dump's own 'gosem.cut.vars' lays the variable. In a bare row this is a premise. The card (YtppghbmggpbopaaDoorCards.lean) ties it to the program's text. -/
def laid_math_bits_deBruijn64tab {H : Type} : DataW H := .agg [.lit (.int .u8 0), .lit (.int .u8 1), .lit (.int .u8 56), .lit (.int .u8 2), .lit (.int .u8 57), .lit (.int .u8 49), .lit (.int .u8 28), .lit (.int .u8 3), .lit (.int .u8 61), .lit (.int .u8 58), .lit (.int .u8 42), .lit (.int .u8 50), .lit (.int .u8 38), .lit (.int .u8 29), .lit (.int .u8 17), .lit (.int .u8 4), .lit (.int .u8 62), .lit (.int .u8 47), .lit (.int .u8 59), .lit (.int .u8 36), .lit (.int .u8 45), .lit (.int .u8 43), .lit (.int .u8 51), .lit (.int .u8 22), .lit (.int .u8 53), .lit (.int .u8 39), .lit (.int .u8 33), .lit (.int .u8 30), .lit (.int .u8 24), .lit (.int .u8 18), .lit (.int .u8 12), .lit (.int .u8 5), .lit (.int .u8 63), .lit (.int .u8 55), .lit (.int .u8 48), .lit (.int .u8 27), .lit (.int .u8 60), .lit (.int .u8 41), .lit (.int .u8 37), .lit (.int .u8 16), .lit (.int .u8 46), .lit (.int .u8 35), .lit (.int .u8 44), .lit (.int .u8 21), .lit (.int .u8 52), .lit (.int .u8 32), .lit (.int .u8 23), .lit (.int .u8 11), .lit (.int .u8 54), .lit (.int .u8 26), .lit (.int .u8 40), .lit (.int .u8 15), .lit (.int .u8 34), .lit (.int .u8 20), .lit (.int .u8 31), .lit (.int .u8 10), .lit (.int .u8 25), .lit (.int .u8 14), .lit (.int .u8 19), .lit (.int .u8 9), .lit (.int .u8 13), .lit (.int .u8 8), .lit (.int .u8 7), .lit (.int .u8 6)]

/-- 'telltalelaw02.VectorWalks': WHATEVER THE INPUT: true; the input reads as it did. -/
def vectorWalksSpec : ChangeSpec := { name := "vectorWalks", fn := fun _ => fun
  | [d1, d2] => { results := [.lit (.bool true)], args := [d1, d2] }
  | _ => none }
def vectorWalksRow : OpenClaim := { program := "ytppghbmggpbopaadoor", sum := "d8b28270eec6dbbd1485e70dc53bd0472ee54d20066b097c26bde92f1805259a", func := "telltale/telltalelaw02.VectorWalks", spec := "vectorWalks", unfollowed := true, recurses := true, named := ["math/bits.deBruijn64tab"], apart := false, laid := [("math/bits.deBruijn64tab", laid_math_bits_deBruijn64tab)] }
def VectorWalksSaid : Prop := vectorWalksRow.holds Tryd.pinned (OpenSpec.ofChange vectorWalksSpec)

/-- ITS FALSE NEIGHBOUR: 'it returns false'. Refute it at one input. -/
def vectorWalksWrong : ChangeSpec := { name := "vectorWalks", fn := fun _ => fun
  | [d1, d2] => { results := [.lit (.bool false)], args := [d1, d2] }
  | _ => none }
def VectorWalksWrongFalsely : Prop := vectorWalksRow.holds Tryd.pinned (OpenSpec.ofChange vectorWalksWrong)

/-- 'telltalelaw02.VectorWiths': WHATEVER THE INPUT: true; the input reads as it did. -/
def vectorWithsSpec : ChangeSpec := { name := "vectorWiths", fn := fun _ => fun
  | [d1, d2] => { results := [.lit (.bool true)], args := [d1, d2] }
  | _ => none }
def vectorWithsRow : OpenClaim := { program := "ytppghbmggpbopaadoor", sum := "d8b28270eec6dbbd1485e70dc53bd0472ee54d20066b097c26bde92f1805259a", func := "telltale/telltalelaw02.VectorWiths", spec := "vectorWiths", unfollowed := true, recurses := true, named := ["math/bits.deBruijn64tab"], apart := false, laid := [("math/bits.deBruijn64tab", laid_math_bits_deBruijn64tab)] }
def VectorWithsSaid : Prop := vectorWithsRow.holds Tryd.pinned (OpenSpec.ofChange vectorWithsSpec)

/-- ITS FALSE NEIGHBOUR: 'it returns false'. Refute it at one input. -/
def vectorWithsWrong : ChangeSpec := { name := "vectorWiths", fn := fun _ => fun
  | [d1, d2] => { results := [.lit (.bool false)], args := [d1, d2] }
  | _ => none }
def VectorWithsWrongFalsely : Prop := vectorWithsRow.holds Tryd.pinned (OpenSpec.ofChange vectorWithsWrong)

/-- 'telltalelaw02.VectorJoins': WHATEVER THE INPUT: true; the input reads as it did. -/
def vectorJoinsSpec : ChangeSpec := { name := "vectorJoins", fn := fun _ => fun
  | [d] => { results := [.lit (.bool true)], args := [d] }
  | _ => none }
def vectorJoinsRow : OpenClaim := { program := "ytppghbmggpbopaadoor", sum := "d8b28270eec6dbbd1485e70dc53bd0472ee54d20066b097c26bde92f1805259a", func := "telltale/telltalelaw02.VectorJoins", spec := "vectorJoins", unfollowed := true, recurses := true, named := ["math/bits.deBruijn64tab"], apart := false, laid := [("math/bits.deBruijn64tab", laid_math_bits_deBruijn64tab)] }
def VectorJoinsSaid : Prop := vectorJoinsRow.holds Tryd.pinned (OpenSpec.ofChange vectorJoinsSpec)

/-- ITS FALSE NEIGHBOUR: 'it returns false'. Refute it at one input. -/
def vectorJoinsWrong : ChangeSpec := { name := "vectorJoins", fn := fun _ => fun
  | [d] => { results := [.lit (.bool false)], args := [d] }
  | _ => none }
def VectorJoinsWrongFalsely : Prop := vectorJoinsRow.holds Tryd.pinned (OpenSpec.ofChange vectorJoinsWrong)

/-- 'telltalelaw02.VectorCounts': WHATEVER THE INPUT: true; the input reads as it did. -/
def vectorCountsSpec : ChangeSpec := { name := "vectorCounts", fn := fun _ => fun
  | [d1, d2, d3] => { results := [.lit (.bool true)], args := [d1, d2, d3] }
  | _ => none }
def vectorCountsRow : OpenClaim := { program := "ytppghbmggpbopaadoor", sum := "d8b28270eec6dbbd1485e70dc53bd0472ee54d20066b097c26bde92f1805259a", func := "telltale/telltalelaw02.VectorCounts", spec := "vectorCounts", unfollowed := true, recurses := true, named := ["math/bits.deBruijn64tab"], apart := false, laid := [("math/bits.deBruijn64tab", laid_math_bits_deBruijn64tab)] }
def VectorCountsSaid : Prop := vectorCountsRow.holds Tryd.pinned (OpenSpec.ofChange vectorCountsSpec)

/-- ITS FALSE NEIGHBOUR: 'it returns false'. Refute it at one input. -/
def vectorCountsWrong : ChangeSpec := { name := "vectorCounts", fn := fun _ => fun
  | [d1, d2, d3] => { results := [.lit (.bool false)], args := [d1, d2, d3] }
  | _ => none }
def VectorCountsWrongFalsely : Prop := vectorCountsRow.holds Tryd.pinned (OpenSpec.ofChange vectorCountsWrong)

/-- 'telltalelaw02.VectorCovers': WHATEVER THE INPUT: true; the input reads as it did. -/
def vectorCoversSpec : ChangeSpec := { name := "vectorCovers", fn := fun _ => fun
  | [d1, d2] => { results := [.lit (.bool true)], args := [d1, d2] }
  | _ => none }
def vectorCoversRow : OpenClaim := { program := "ytppghbmggpbopaadoor", sum := "d8b28270eec6dbbd1485e70dc53bd0472ee54d20066b097c26bde92f1805259a", func := "telltale/telltalelaw02.VectorCovers", spec := "vectorCovers", unfollowed := true, recurses := true, named := ["math/bits.deBruijn64tab"], apart := false, laid := [("math/bits.deBruijn64tab", laid_math_bits_deBruijn64tab)] }
def VectorCoversSaid : Prop := vectorCoversRow.holds Tryd.pinned (OpenSpec.ofChange vectorCoversSpec)

/-- ITS FALSE NEIGHBOUR: 'it returns false'. Refute it at one input. -/
def vectorCoversWrong : ChangeSpec := { name := "vectorCovers", fn := fun _ => fun
  | [d1, d2] => { results := [.lit (.bool false)], args := [d1, d2] }
  | _ => none }
def VectorCoversWrongFalsely : Prop := vectorCoversRow.holds Tryd.pinned (OpenSpec.ofChange vectorCoversWrong)

/-- 'telltalelaw02.VectorLattice': WHATEVER THE INPUT: true; the input reads as it did. -/
def vectorLatticeSpec : ChangeSpec := { name := "vectorLattice", fn := fun _ => fun
  | [d1, d2, d3] => { results := [.lit (.bool true)], args := [d1, d2, d3] }
  | _ => none }
def vectorLatticeRow : OpenClaim := { program := "ytppghbmggpbopaadoor", sum := "d8b28270eec6dbbd1485e70dc53bd0472ee54d20066b097c26bde92f1805259a", func := "telltale/telltalelaw02.VectorLattice", spec := "vectorLattice", unfollowed := true, recurses := true, named := ["math/bits.deBruijn64tab"], apart := false, laid := [("math/bits.deBruijn64tab", laid_math_bits_deBruijn64tab)] }
def VectorLatticeSaid : Prop := vectorLatticeRow.holds Tryd.pinned (OpenSpec.ofChange vectorLatticeSpec)

/-- ITS FALSE NEIGHBOUR: 'it returns false'. Refute it at one input. -/
def vectorLatticeWrong : ChangeSpec := { name := "vectorLattice", fn := fun _ => fun
  | [d1, d2, d3] => { results := [.lit (.bool false)], args := [d1, d2, d3] }
  | _ => none }
def VectorLatticeWrongFalsely : Prop := vectorLatticeRow.holds Tryd.pinned (OpenSpec.ofChange vectorLatticeWrong)

/- THE SECOND FORM. 'bulk': how many values and letters a reading holds, each counted each time it is reached (what is shared counts as often as it is met; a slice's spare places count too). A statement '..UptoSaid' is the law's where the arguments, and the package variables that the reading takes, are together of bulk at most 1048576: NARROWER than '..Said'. Prove '..Said' where nothing that the law and all that it calls make is longer than what came in: it says more and counts as full. Else prove '..UptoSaid'. A law counts once. -/
mutual
def uptoBulk {H : Type} : DataW H → Nat
  | .lit (.string bytes) => bytes.length + 1
  | .lit _ => 1
  | .nil => 1
  | .ptr d => uptoBulk d + 1
  | .slice elems spare => uptoBulkAll elems + uptoBulkAll spare + 1
  | .agg parts => uptoBulkAll parts + 1
  | .iface _ d => uptoBulk d + 1
  | .map entries => uptoBulkEntries entries + 1
  | .held _ => 1
def uptoBulkAll {H : Type} : List (DataW H) → Nat
  | [] => 0
  | d :: r => uptoBulk d + uptoBulkAll r
def uptoBulkEntries {H : Type} : List (Lit × DataW H) → Nat
  | [] => 0
  | x :: r => uptoBulkEntry x + uptoBulkEntries r
def uptoBulkEntry {H : Type} : Lit × DataW H → Nat
  | (.string bytes, d) => bytes.length + uptoBulk d + 1
  | (_, d) => uptoBulk d + 1
 end
def uptoSmall : (H : Type) → List (DataW H) → Bool := fun _ ds => decide (uptoBulkAll ds ≤ 1048576)
def OpenSpec.upto (s : _root_.Go.ChangeSpec) : _root_.Go.OpenSpec := { _root_.Go.OpenSpec.ofChange s with cond := some uptoSmall }

/-- 'telltalelaw02.VectorWalks', WHERE WHAT IT READS IS OF BULK AT MOST 1048576: true; the input reads as it did. -/
def vectorWalksUptoRow : OpenClaim := { program := "ytppghbmggpbopaadoor", sum := "d8b28270eec6dbbd1485e70dc53bd0472ee54d20066b097c26bde92f1805259a", func := "telltale/telltalelaw02.VectorWalks", spec := "vectorWalks", unfollowed := true, recurses := true, named := ["math/bits.deBruijn64tab"], apart := false, laid := [("math/bits.deBruijn64tab", laid_math_bits_deBruijn64tab)], narrowed := true }
def VectorWalksUptoSaid : Prop := vectorWalksUptoRow.holds Tryd.pinned (OpenSpec.upto vectorWalksSpec)

/-- 'telltalelaw02.VectorWiths', WHERE WHAT IT READS IS OF BULK AT MOST 1048576: true; the input reads as it did. -/
def vectorWithsUptoRow : OpenClaim := { program := "ytppghbmggpbopaadoor", sum := "d8b28270eec6dbbd1485e70dc53bd0472ee54d20066b097c26bde92f1805259a", func := "telltale/telltalelaw02.VectorWiths", spec := "vectorWiths", unfollowed := true, recurses := true, named := ["math/bits.deBruijn64tab"], apart := false, laid := [("math/bits.deBruijn64tab", laid_math_bits_deBruijn64tab)], narrowed := true }
def VectorWithsUptoSaid : Prop := vectorWithsUptoRow.holds Tryd.pinned (OpenSpec.upto vectorWithsSpec)

/-- 'telltalelaw02.VectorJoins', WHERE WHAT IT READS IS OF BULK AT MOST 1048576: true; the input reads as it did. -/
def vectorJoinsUptoRow : OpenClaim := { program := "ytppghbmggpbopaadoor", sum := "d8b28270eec6dbbd1485e70dc53bd0472ee54d20066b097c26bde92f1805259a", func := "telltale/telltalelaw02.VectorJoins", spec := "vectorJoins", unfollowed := true, recurses := true, named := ["math/bits.deBruijn64tab"], apart := false, laid := [("math/bits.deBruijn64tab", laid_math_bits_deBruijn64tab)], narrowed := true }
def VectorJoinsUptoSaid : Prop := vectorJoinsUptoRow.holds Tryd.pinned (OpenSpec.upto vectorJoinsSpec)

/-- 'telltalelaw02.VectorCounts', WHERE WHAT IT READS IS OF BULK AT MOST 1048576: true; the input reads as it did. -/
def vectorCountsUptoRow : OpenClaim := { program := "ytppghbmggpbopaadoor", sum := "d8b28270eec6dbbd1485e70dc53bd0472ee54d20066b097c26bde92f1805259a", func := "telltale/telltalelaw02.VectorCounts", spec := "vectorCounts", unfollowed := true, recurses := true, named := ["math/bits.deBruijn64tab"], apart := false, laid := [("math/bits.deBruijn64tab", laid_math_bits_deBruijn64tab)], narrowed := true }
def VectorCountsUptoSaid : Prop := vectorCountsUptoRow.holds Tryd.pinned (OpenSpec.upto vectorCountsSpec)

/-- 'telltalelaw02.VectorCovers', WHERE WHAT IT READS IS OF BULK AT MOST 1048576: true; the input reads as it did. -/
def vectorCoversUptoRow : OpenClaim := { program := "ytppghbmggpbopaadoor", sum := "d8b28270eec6dbbd1485e70dc53bd0472ee54d20066b097c26bde92f1805259a", func := "telltale/telltalelaw02.VectorCovers", spec := "vectorCovers", unfollowed := true, recurses := true, named := ["math/bits.deBruijn64tab"], apart := false, laid := [("math/bits.deBruijn64tab", laid_math_bits_deBruijn64tab)], narrowed := true }
def VectorCoversUptoSaid : Prop := vectorCoversUptoRow.holds Tryd.pinned (OpenSpec.upto vectorCoversSpec)

/-- 'telltalelaw02.VectorLattice', WHERE WHAT IT READS IS OF BULK AT MOST 1048576: true; the input reads as it did. -/
def vectorLatticeUptoRow : OpenClaim := { program := "ytppghbmggpbopaadoor", sum := "d8b28270eec6dbbd1485e70dc53bd0472ee54d20066b097c26bde92f1805259a", func := "telltale/telltalelaw02.VectorLattice", spec := "vectorLattice", unfollowed := true, recurses := true, named := ["math/bits.deBruijn64tab"], apart := false, laid := [("math/bits.deBruijn64tab", laid_math_bits_deBruijn64tab)], narrowed := true }
def VectorLatticeUptoSaid : Prop := vectorLatticeUptoRow.holds Tryd.pinned (OpenSpec.upto vectorLatticeSpec)

end Rows
end Go.Proofs.YtppghbmggpbopaaDoor
