/-
  No cell of these rows narrows 'for every input' (looked for: loops, veiled, ifaces, maps, wideKeys, modest, calm, conditions, laid).
  DERIVED. THE GIVEN ROWS OF THIS SEAT. 5 by the template 'for every input the law returns true; each argument reads behind the call as it read before'; 0 by the template 'total and deterministic' (their statements: YtldcgmnfohhjbacTotals.lean).
  GIVEN WITH THE SEED: the statements are not yours to turn. If you find one false, say at which input.
  Laid BY PROGRAM, IN A SANDBOX (cutbox-rows.mjs): the forced cells as the released guide's own fill.sh prints them over the translation 070260eec4c33cd8… (all of the seat's roots in one cut). By AI agents, Wed Nov 11 2026. No macro, syntax, notation, axiom, sorry.
-/
import Derived.Test.YtldcgmnfohhjbacChecked
import GoSem.Claim
import GoSem.ClaimJoined
import GoSem.ClaimMapViews
import Derived.JoinedTies
import Derived.KernelRfl
namespace Go.Proofs.Ytldcgmnfohhjbac
/- THE CELL 'sum', in the pinned program and in every row, IS THE sha256 OF THE DUMP (.gsa) THAT YtldcgmnfohhjbacProg.lean LOADS. Nothing in Lean hashes anything: it is a label: what it is worth is what the hold of that sum in a sandbox is worth. -/
noncomputable def Try.pinned : Pinned := { name := "ytldcgmnfohhjbac", sum := "070260eec4c33cd81e49fda5189265eac3705843d454ca506410a8e181739ddb", checked := Try.checked }
namespace Rows
def none {H : Type} : Left H := { results := [], args := [] }

/-- 'telltalelaw20.ScriptEncodes': WHATEVER THE INPUT: true; the input reads as it did. -/
def scriptEncodesSpec : ChangeSpec := { name := "scriptEncodes", fn := fun _ => fun
  | [d] => { results := [.lit (.bool true)], args := [d] }
  | _ => none }
def scriptEncodesRow : OpenClaim := { program := "ytldcgmnfohhjbac", sum := "070260eec4c33cd81e49fda5189265eac3705843d454ca506410a8e181739ddb", func := "telltale/telltalelaw20.ScriptEncodes", spec := "scriptEncodes", apart := false }
def ScriptEncodesSaid : Prop := scriptEncodesRow.holds Try.pinned (OpenSpec.ofChange scriptEncodesSpec)

/-- ITS FALSE NEIGHBOUR: 'it returns false'. Refute it at one input. -/
def scriptEncodesWrong : ChangeSpec := { name := "scriptEncodes", fn := fun _ => fun
  | [d] => { results := [.lit (.bool false)], args := [d] }
  | _ => none }
def ScriptEncodesWrongFalsely : Prop := scriptEncodesRow.holds Try.pinned (OpenSpec.ofChange scriptEncodesWrong)

/-- 'telltalelaw20.ScriptDecodes': WHATEVER THE INPUT: true; the input reads as it did. -/
def scriptDecodesSpec : ChangeSpec := { name := "scriptDecodes", fn := fun _ => fun
  | [d] => { results := [.lit (.bool true)], args := [d] }
  | _ => none }
def scriptDecodesRow : OpenClaim := { program := "ytldcgmnfohhjbac", sum := "070260eec4c33cd81e49fda5189265eac3705843d454ca506410a8e181739ddb", func := "telltale/telltalelaw20.ScriptDecodes", spec := "scriptDecodes", apart := false }
def ScriptDecodesSaid : Prop := scriptDecodesRow.holds Try.pinned (OpenSpec.ofChange scriptDecodesSpec)

/-- ITS FALSE NEIGHBOUR: 'it returns false'. Refute it at one input. -/
def scriptDecodesWrong : ChangeSpec := { name := "scriptDecodes", fn := fun _ => fun
  | [d] => { results := [.lit (.bool false)], args := [d] }
  | _ => none }
def ScriptDecodesWrongFalsely : Prop := scriptDecodesRow.holds Try.pinned (OpenSpec.ofChange scriptDecodesWrong)

/-- 'telltalelaw20.ScriptLays': WHATEVER THE INPUT: true; the input reads as it did. -/
def scriptLaysSpec : ChangeSpec := { name := "scriptLays", fn := fun _ => fun
  | [d] => { results := [.lit (.bool true)], args := [d] }
  | _ => none }
def scriptLaysRow : OpenClaim := { program := "ytldcgmnfohhjbac", sum := "070260eec4c33cd81e49fda5189265eac3705843d454ca506410a8e181739ddb", func := "telltale/telltalelaw20.ScriptLays", spec := "scriptLays", apart := false }
def ScriptLaysSaid : Prop := scriptLaysRow.holds Try.pinned (OpenSpec.ofChange scriptLaysSpec)

/-- ITS FALSE NEIGHBOUR: 'it returns false'. Refute it at one input. -/
def scriptLaysWrong : ChangeSpec := { name := "scriptLays", fn := fun _ => fun
  | [d] => { results := [.lit (.bool false)], args := [d] }
  | _ => none }
def ScriptLaysWrongFalsely : Prop := scriptLaysRow.holds Try.pinned (OpenSpec.ofChange scriptLaysWrong)

/-- 'telltalelaw20.ScriptSteps': WHATEVER THE INPUT: true; the input reads as it did. -/
def scriptStepsSpec : ChangeSpec := { name := "scriptSteps", fn := fun _ => fun
  | [d1, d2] => { results := [.lit (.bool true)], args := [d1, d2] }
  | _ => none }
def scriptStepsRow : OpenClaim := { program := "ytldcgmnfohhjbac", sum := "070260eec4c33cd81e49fda5189265eac3705843d454ca506410a8e181739ddb", func := "telltale/telltalelaw20.ScriptSteps", spec := "scriptSteps", unfollowed := true, recurses := true, apart := false }
def ScriptStepsSaid : Prop := scriptStepsRow.holds Try.pinned (OpenSpec.ofChange scriptStepsSpec)

/-- ITS FALSE NEIGHBOUR: 'it returns false'. Refute it at one input. -/
def scriptStepsWrong : ChangeSpec := { name := "scriptSteps", fn := fun _ => fun
  | [d1, d2] => { results := [.lit (.bool false)], args := [d1, d2] }
  | _ => none }
def ScriptStepsWrongFalsely : Prop := scriptStepsRow.holds Try.pinned (OpenSpec.ofChange scriptStepsWrong)

/-- 'telltalelaw20.ScriptBack': WHATEVER THE INPUT: true; the input reads as it did. -/
def scriptBackSpec : ChangeSpec := { name := "scriptBack", fn := fun _ => fun
  | [d1, d2] => { results := [.lit (.bool true)], args := [d1, d2] }
  | _ => none }
def scriptBackRow : OpenClaim := { program := "ytldcgmnfohhjbac", sum := "070260eec4c33cd81e49fda5189265eac3705843d454ca506410a8e181739ddb", func := "telltale/telltalelaw20.ScriptBack", spec := "scriptBack", unfollowed := true, recurses := true, apart := false }
def ScriptBackSaid : Prop := scriptBackRow.holds Try.pinned (OpenSpec.ofChange scriptBackSpec)

/-- ITS FALSE NEIGHBOUR: 'it returns false'. Refute it at one input. -/
def scriptBackWrong : ChangeSpec := { name := "scriptBack", fn := fun _ => fun
  | [d1, d2] => { results := [.lit (.bool false)], args := [d1, d2] }
  | _ => none }
def ScriptBackWrongFalsely : Prop := scriptBackRow.holds Try.pinned (OpenSpec.ofChange scriptBackWrong)

/- THE SECOND FORM. 'bulk': how many values and letters a reading holds, each counted each time it is reached (what is shared counts as often as it is met; a slice's spare places count too). A statement '..UptoSaid' is the law's where the arguments, and the package variables that the reading takes, are together of bulk at most 1048576: NARROWER than '..Said'. Prove '..Said' where nothing that the law and all that it calls make is longer than what came in: it says more and counts as full. Else prove '..UptoSaid'. A law counts once. -/
mutual
def uptoBulk {H : Type} : DataW H → Nat
  | .lit (.string bytes) => bytes.length + 1
  | .lit _ => 1
  | .nil => 1
  | .ptr d => uptoBulk d + 1
  | .slice elems spare => uptoBulkAll elems + uptoBulkAll spare + 1
  | .agg parts => uptoBulkAll parts + 1
  | .iface _ d => uptoBulk d + 1
  | .map entries => uptoBulkEntries entries + 1
  | .held _ => 1
def uptoBulkAll {H : Type} : List (DataW H) → Nat
  | [] => 0
  | d :: r => uptoBulk d + uptoBulkAll r
def uptoBulkEntries {H : Type} : List (Lit × DataW H) → Nat
  | [] => 0
  | x :: r => uptoBulkEntry x + uptoBulkEntries r
def uptoBulkEntry {H : Type} : Lit × DataW H → Nat
  | (.string bytes, d) => bytes.length + uptoBulk d + 1
  | (_, d) => uptoBulk d + 1
 end
def uptoSmall : (H : Type) → List (DataW H) → Bool := fun _ ds => decide (uptoBulkAll ds ≤ 1048576)
def OpenSpec.upto (s : _root_.Go.ChangeSpec) : _root_.Go.OpenSpec := { _root_.Go.OpenSpec.ofChange s with cond := some uptoSmall }

/-- 'telltalelaw20.ScriptEncodes', WHERE WHAT IT READS IS OF BULK AT MOST 1048576: true; the input reads as it did. -/
def scriptEncodesUptoRow : OpenClaim := { program := "ytldcgmnfohhjbac", sum := "070260eec4c33cd81e49fda5189265eac3705843d454ca506410a8e181739ddb", func := "telltale/telltalelaw20.ScriptEncodes", spec := "scriptEncodes", apart := false, narrowed := true }
def ScriptEncodesUptoSaid : Prop := scriptEncodesUptoRow.holds Try.pinned (OpenSpec.upto scriptEncodesSpec)

/-- 'telltalelaw20.ScriptDecodes', WHERE WHAT IT READS IS OF BULK AT MOST 1048576: true; the input reads as it did. -/
def scriptDecodesUptoRow : OpenClaim := { program := "ytldcgmnfohhjbac", sum := "070260eec4c33cd81e49fda5189265eac3705843d454ca506410a8e181739ddb", func := "telltale/telltalelaw20.ScriptDecodes", spec := "scriptDecodes", apart := false, narrowed := true }
def ScriptDecodesUptoSaid : Prop := scriptDecodesUptoRow.holds Try.pinned (OpenSpec.upto scriptDecodesSpec)

/-- 'telltalelaw20.ScriptLays', WHERE WHAT IT READS IS OF BULK AT MOST 1048576: true; the input reads as it did. -/
def scriptLaysUptoRow : OpenClaim := { program := "ytldcgmnfohhjbac", sum := "070260eec4c33cd81e49fda5189265eac3705843d454ca506410a8e181739ddb", func := "telltale/telltalelaw20.ScriptLays", spec := "scriptLays", apart := false, narrowed := true }
def ScriptLaysUptoSaid : Prop := scriptLaysUptoRow.holds Try.pinned (OpenSpec.upto scriptLaysSpec)

/-- 'telltalelaw20.ScriptSteps', WHERE WHAT IT READS IS OF BULK AT MOST 1048576: true; the input reads as it did. -/
def scriptStepsUptoRow : OpenClaim := { program := "ytldcgmnfohhjbac", sum := "070260eec4c33cd81e49fda5189265eac3705843d454ca506410a8e181739ddb", func := "telltale/telltalelaw20.ScriptSteps", spec := "scriptSteps", unfollowed := true, recurses := true, apart := false, narrowed := true }
def ScriptStepsUptoSaid : Prop := scriptStepsUptoRow.holds Try.pinned (OpenSpec.upto scriptStepsSpec)

/-- 'telltalelaw20.ScriptBack', WHERE WHAT IT READS IS OF BULK AT MOST 1048576: true; the input reads as it did. -/
def scriptBackUptoRow : OpenClaim := { program := "ytldcgmnfohhjbac", sum := "070260eec4c33cd81e49fda5189265eac3705843d454ca506410a8e181739ddb", func := "telltale/telltalelaw20.ScriptBack", spec := "scriptBack", unfollowed := true, recurses := true, apart := false, narrowed := true }
def ScriptBackUptoSaid : Prop := scriptBackUptoRow.holds Try.pinned (OpenSpec.upto scriptBackSpec)

end Rows
end Go.Proofs.Ytldcgmnfohhjbac
