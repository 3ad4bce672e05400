/-
  No cell of these rows narrows 'for every input' (looked for: loops, veiled, ifaces, maps, wideKeys, modest, calm, conditions, laid).
  DERIVED. THE GIVEN ROWS OF THIS SEAT. 6 by the template 'for every input the law returns true; each argument reads behind the call as it read before'; 0 by the template 'total and deterministic' (their statements: YtafbaagjokomcaaTotals.lean).
  GIVEN WITH THE SEED: the statements are not yours to turn. If you find one false, say at which input.
  Laid BY PROGRAM, IN A SANDBOX (cutbox-rows.mjs): the forced cells as the released guide's own fill.sh prints them over the translation 1cd48f899851890a… (all of the seat's roots in one cut). By AI agents, Wed Nov 11 2026. No macro, syntax, notation, axiom, sorry.
-/
import Derived.Test.YtafbaagjokomcaaChecked
import GoSem.Claim
import GoSem.ClaimJoined
import GoSem.ClaimMapViews
import Derived.JoinedTies
import Derived.KernelRfl
namespace Go.Proofs.Ytafbaagjokomcaa
/- THE CELL 'sum', in the pinned program and in every row, IS THE sha256 OF THE DUMP (.gsa) THAT YtafbaagjokomcaaProg.lean LOADS. Nothing in Lean hashes anything: it is a label: what it is worth is what the hold of that sum in a sandbox is worth. -/
noncomputable def Try.pinned : Pinned := { name := "ytafbaagjokomcaa", sum := "1cd48f899851890ab06779a9e4710cf1d556517b2a364162855237ec6a00bfb1", checked := Try.checked }
namespace Rows
def none {H : Type} : Left H := { results := [], args := [] }

/-- 'telltalelaw03.SpanOfs': WHATEVER THE INPUT: true; the input reads as it did. -/
def spanOfsSpec : ChangeSpec := { name := "spanOfs", fn := fun _ => fun
  | [d] => { results := [.lit (.bool true)], args := [d] }
  | _ => none }
def spanOfsRow : OpenClaim := { program := "ytafbaagjokomcaa", sum := "1cd48f899851890ab06779a9e4710cf1d556517b2a364162855237ec6a00bfb1", func := "telltale/telltalelaw03.SpanOfs", spec := "spanOfs", unfollowed := true, recurses := true, apart := false }
def SpanOfsSaid : Prop := spanOfsRow.holds Try.pinned (OpenSpec.ofChange spanOfsSpec)

/-- ITS FALSE NEIGHBOUR: 'it returns false'. Refute it at one input. -/
def spanOfsWrong : ChangeSpec := { name := "spanOfs", fn := fun _ => fun
  | [d] => { results := [.lit (.bool false)], args := [d] }
  | _ => none }
def SpanOfsWrongFalsely : Prop := spanOfsRow.holds Try.pinned (OpenSpec.ofChange spanOfsWrong)

/-- 'telltalelaw03.SpanWalks': WHATEVER THE INPUT: true; the input reads as it did. -/
def spanWalksSpec : ChangeSpec := { name := "spanWalks", fn := fun _ => fun
  | [d1, d2] => { results := [.lit (.bool true)], args := [d1, d2] }
  | _ => none }
def spanWalksRow : OpenClaim := { program := "ytafbaagjokomcaa", sum := "1cd48f899851890ab06779a9e4710cf1d556517b2a364162855237ec6a00bfb1", func := "telltale/telltalelaw03.SpanWalks", spec := "spanWalks", unfollowed := true, recurses := true, apart := false }
def SpanWalksSaid : Prop := spanWalksRow.holds Try.pinned (OpenSpec.ofChange spanWalksSpec)

/-- ITS FALSE NEIGHBOUR: 'it returns false'. Refute it at one input. -/
def spanWalksWrong : ChangeSpec := { name := "spanWalks", fn := fun _ => fun
  | [d1, d2] => { results := [.lit (.bool false)], args := [d1, d2] }
  | _ => none }
def SpanWalksWrongFalsely : Prop := spanWalksRow.holds Try.pinned (OpenSpec.ofChange spanWalksWrong)

/-- 'telltalelaw03.SpanForms': WHATEVER THE INPUT: true; the input reads as it did. -/
def spanFormsSpec : ChangeSpec := { name := "spanForms", fn := fun _ => fun
  | [d1, d2] => { results := [.lit (.bool true)], args := [d1, d2] }
  | _ => none }
def spanFormsRow : OpenClaim := { program := "ytafbaagjokomcaa", sum := "1cd48f899851890ab06779a9e4710cf1d556517b2a364162855237ec6a00bfb1", func := "telltale/telltalelaw03.SpanForms", spec := "spanForms", unfollowed := true, recurses := true, apart := false }
def SpanFormsSaid : Prop := spanFormsRow.holds Try.pinned (OpenSpec.ofChange spanFormsSpec)

/-- ITS FALSE NEIGHBOUR: 'it returns false'. Refute it at one input. -/
def spanFormsWrong : ChangeSpec := { name := "spanForms", fn := fun _ => fun
  | [d1, d2] => { results := [.lit (.bool false)], args := [d1, d2] }
  | _ => none }
def SpanFormsWrongFalsely : Prop := spanFormsRow.holds Try.pinned (OpenSpec.ofChange spanFormsWrong)

/-- 'telltalelaw03.SpanJoins': WHATEVER THE INPUT: true; the input reads as it did. -/
def spanJoinsSpec : ChangeSpec := { name := "spanJoins", fn := fun _ => fun
  | [d] => { results := [.lit (.bool true)], args := [d] }
  | _ => none }
def spanJoinsRow : OpenClaim := { program := "ytafbaagjokomcaa", sum := "1cd48f899851890ab06779a9e4710cf1d556517b2a364162855237ec6a00bfb1", func := "telltale/telltalelaw03.SpanJoins", spec := "spanJoins", unfollowed := true, recurses := true, apart := false }
def SpanJoinsSaid : Prop := spanJoinsRow.holds Try.pinned (OpenSpec.ofChange spanJoinsSpec)

/-- ITS FALSE NEIGHBOUR: 'it returns false'. Refute it at one input. -/
def spanJoinsWrong : ChangeSpec := { name := "spanJoins", fn := fun _ => fun
  | [d] => { results := [.lit (.bool false)], args := [d] }
  | _ => none }
def SpanJoinsWrongFalsely : Prop := spanJoinsRow.holds Try.pinned (OpenSpec.ofChange spanJoinsWrong)

/-- 'telltalelaw03.SpanTwos': WHATEVER THE INPUT: true; the input reads as it did. -/
def spanTwosSpec : ChangeSpec := { name := "spanTwos", fn := fun _ => fun
  | [d1, d2] => { results := [.lit (.bool true)], args := [d1, d2] }
  | _ => none }
def spanTwosRow : OpenClaim := { program := "ytafbaagjokomcaa", sum := "1cd48f899851890ab06779a9e4710cf1d556517b2a364162855237ec6a00bfb1", func := "telltale/telltalelaw03.SpanTwos", spec := "spanTwos", unfollowed := true, recurses := true, apart := false }
def SpanTwosSaid : Prop := spanTwosRow.holds Try.pinned (OpenSpec.ofChange spanTwosSpec)

/-- ITS FALSE NEIGHBOUR: 'it returns false'. Refute it at one input. -/
def spanTwosWrong : ChangeSpec := { name := "spanTwos", fn := fun _ => fun
  | [d1, d2] => { results := [.lit (.bool false)], args := [d1, d2] }
  | _ => none }
def SpanTwosWrongFalsely : Prop := spanTwosRow.holds Try.pinned (OpenSpec.ofChange spanTwosWrong)

/-- 'telltalelaw03.SpanSets': WHATEVER THE INPUT: true; the input reads as it did. -/
def spanSetsSpec : ChangeSpec := { name := "spanSets", fn := fun _ => fun
  | [d1, d2, d3] => { results := [.lit (.bool true)], args := [d1, d2, d3] }
  | _ => none }
def spanSetsRow : OpenClaim := { program := "ytafbaagjokomcaa", sum := "1cd48f899851890ab06779a9e4710cf1d556517b2a364162855237ec6a00bfb1", func := "telltale/telltalelaw03.SpanSets", spec := "spanSets", unfollowed := true, recurses := true, apart := false }
def SpanSetsSaid : Prop := spanSetsRow.holds Try.pinned (OpenSpec.ofChange spanSetsSpec)

/-- ITS FALSE NEIGHBOUR: 'it returns false'. Refute it at one input. -/
def spanSetsWrong : ChangeSpec := { name := "spanSets", fn := fun _ => fun
  | [d1, d2, d3] => { results := [.lit (.bool false)], args := [d1, d2, d3] }
  | _ => none }
def SpanSetsWrongFalsely : Prop := spanSetsRow.holds Try.pinned (OpenSpec.ofChange spanSetsWrong)

/- THE SECOND FORM. 'bulk': how many values and letters a reading holds, each counted each time it is reached (what is shared counts as often as it is met; a slice's spare places count too). A statement '..UptoSaid' is the law's where the arguments, and the package variables that the reading takes, are together of bulk at most 1048576: NARROWER than '..Said'. Prove '..Said' where nothing that the law and all that it calls make is longer than what came in: it says more and counts as full. Else prove '..UptoSaid'. A law counts once. -/
mutual
def uptoBulk {H : Type} : DataW H → Nat
  | .lit (.string bytes) => bytes.length + 1
  | .lit _ => 1
  | .nil => 1
  | .ptr d => uptoBulk d + 1
  | .slice elems spare => uptoBulkAll elems + uptoBulkAll spare + 1
  | .agg parts => uptoBulkAll parts + 1
  | .iface _ d => uptoBulk d + 1
  | .map entries => uptoBulkEntries entries + 1
  | .held _ => 1
def uptoBulkAll {H : Type} : List (DataW H) → Nat
  | [] => 0
  | d :: r => uptoBulk d + uptoBulkAll r
def uptoBulkEntries {H : Type} : List (Lit × DataW H) → Nat
  | [] => 0
  | x :: r => uptoBulkEntry x + uptoBulkEntries r
def uptoBulkEntry {H : Type} : Lit × DataW H → Nat
  | (.string bytes, d) => bytes.length + uptoBulk d + 1
  | (_, d) => uptoBulk d + 1
 end
def uptoSmall : (H : Type) → List (DataW H) → Bool := fun _ ds => decide (uptoBulkAll ds ≤ 1048576)
def OpenSpec.upto (s : _root_.Go.ChangeSpec) : _root_.Go.OpenSpec := { _root_.Go.OpenSpec.ofChange s with cond := some uptoSmall }

/-- 'telltalelaw03.SpanOfs', WHERE WHAT IT READS IS OF BULK AT MOST 1048576: true; the input reads as it did. -/
def spanOfsUptoRow : OpenClaim := { program := "ytafbaagjokomcaa", sum := "1cd48f899851890ab06779a9e4710cf1d556517b2a364162855237ec6a00bfb1", func := "telltale/telltalelaw03.SpanOfs", spec := "spanOfs", unfollowed := true, recurses := true, apart := false, narrowed := true }
def SpanOfsUptoSaid : Prop := spanOfsUptoRow.holds Try.pinned (OpenSpec.upto spanOfsSpec)

/-- 'telltalelaw03.SpanWalks', WHERE WHAT IT READS IS OF BULK AT MOST 1048576: true; the input reads as it did. -/
def spanWalksUptoRow : OpenClaim := { program := "ytafbaagjokomcaa", sum := "1cd48f899851890ab06779a9e4710cf1d556517b2a364162855237ec6a00bfb1", func := "telltale/telltalelaw03.SpanWalks", spec := "spanWalks", unfollowed := true, recurses := true, apart := false, narrowed := true }
def SpanWalksUptoSaid : Prop := spanWalksUptoRow.holds Try.pinned (OpenSpec.upto spanWalksSpec)

/-- 'telltalelaw03.SpanForms', WHERE WHAT IT READS IS OF BULK AT MOST 1048576: true; the input reads as it did. -/
def spanFormsUptoRow : OpenClaim := { program := "ytafbaagjokomcaa", sum := "1cd48f899851890ab06779a9e4710cf1d556517b2a364162855237ec6a00bfb1", func := "telltale/telltalelaw03.SpanForms", spec := "spanForms", unfollowed := true, recurses := true, apart := false, narrowed := true }
def SpanFormsUptoSaid : Prop := spanFormsUptoRow.holds Try.pinned (OpenSpec.upto spanFormsSpec)

/-- 'telltalelaw03.SpanJoins', WHERE WHAT IT READS IS OF BULK AT MOST 1048576: true; the input reads as it did. -/
def spanJoinsUptoRow : OpenClaim := { program := "ytafbaagjokomcaa", sum := "1cd48f899851890ab06779a9e4710cf1d556517b2a364162855237ec6a00bfb1", func := "telltale/telltalelaw03.SpanJoins", spec := "spanJoins", unfollowed := true, recurses := true, apart := false, narrowed := true }
def SpanJoinsUptoSaid : Prop := spanJoinsUptoRow.holds Try.pinned (OpenSpec.upto spanJoinsSpec)

/-- 'telltalelaw03.SpanTwos', WHERE WHAT IT READS IS OF BULK AT MOST 1048576: true; the input reads as it did. -/
def spanTwosUptoRow : OpenClaim := { program := "ytafbaagjokomcaa", sum := "1cd48f899851890ab06779a9e4710cf1d556517b2a364162855237ec6a00bfb1", func := "telltale/telltalelaw03.SpanTwos", spec := "spanTwos", unfollowed := true, recurses := true, apart := false, narrowed := true }
def SpanTwosUptoSaid : Prop := spanTwosUptoRow.holds Try.pinned (OpenSpec.upto spanTwosSpec)

/-- 'telltalelaw03.SpanSets', WHERE WHAT IT READS IS OF BULK AT MOST 1048576: true; the input reads as it did. -/
def spanSetsUptoRow : OpenClaim := { program := "ytafbaagjokomcaa", sum := "1cd48f899851890ab06779a9e4710cf1d556517b2a364162855237ec6a00bfb1", func := "telltale/telltalelaw03.SpanSets", spec := "spanSets", unfollowed := true, recurses := true, apart := false, narrowed := true }
def SpanSetsUptoSaid : Prop := spanSetsUptoRow.holds Try.pinned (OpenSpec.upto spanSetsSpec)

end Rows
end Go.Proofs.Ytafbaagjokomcaa
