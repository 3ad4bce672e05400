/-
  NARROWER THAN 'FOR EVERY INPUT', by the rows' own cells (each row's printed sentence says how): NoteOfs: laid · NoteForms: laid · NoteTells: laid · LogForms: laid · LogAppends: laid · LogWalks: laid · LogCuts: laid.
  DERIVED. THE GIVEN ROWS OF THIS SEAT. 7 by the template 'for every input the law returns true; each argument reads behind the call as it read before'; 0 by the template 'total and deterministic' (their statements: YtldcgmnfohhjbaaDoorTotals.lean).
  GIVEN WITH THE SEED: the statements are not yours to turn. If you find one false, say at which input.
  Laid BY PROGRAM, IN A SANDBOX (cutbox-rows.mjs): the forced cells as the released guide's own fill.sh prints them over the translation a38a16af4c639f86… (all of the seat's roots in one cut). By AI agents, Wed Nov 11 2026. No macro, syntax, notation, axiom, sorry.
-/
import Derived.Test.YtldcgmnfohhjbaaDoorChecked
import GoSem.Claim
import GoSem.ClaimJoined
import GoSem.ClaimMapViews
import Derived.JoinedTies
import Derived.KernelRfl
namespace Go.Proofs.YtldcgmnfohhjbaaDoor
/- THE CELL 'sum', in the pinned program and in every row, IS THE sha256 OF THE DUMP (.gsa) THAT YtldcgmnfohhjbaaDoorProg.lean LOADS. Nothing in Lean hashes anything: it is a label: what it is worth is what the hold of that sum in a sandbox is worth. -/
noncomputable def Tryd.pinned : Pinned := { name := "ytldcgmnfohhjbaadoor", sum := "a38a16af4c639f863fb15a0dce160736e2fe3088b3b6a7f2db7fe05c9e3ed0f5", checked := Tryd.checked }
namespace Rows
def none {H : Type} : Left H := { results := [], args := [] }

/- WHAT THE LISTED PACKAGE-LEVEL VARIABLES READ AS WHEN THE CALL BEGINS. Each datum BY PROGRAM (the guide's laid-datum.mjs) off the statement by which the dump's own 'gosem.cut.vars' lays the variable. In a bare row this is a premise. The card (YtldcgmnfohhjbaaDoorCards.lean) ties it to the program's text. -/
def laid_math_bits_deBruijn64tab {H : Type} : DataW H := .agg [.lit (.int .u8 0), .lit (.int .u8 1), .lit (.int .u8 56), .lit (.int .u8 2), .lit (.int .u8 57), .lit (.int .u8 49), .lit (.int .u8 28), .lit (.int .u8 3), .lit (.int .u8 61), .lit (.int .u8 58), .lit (.int .u8 42), .lit (.int .u8 50), .lit (.int .u8 38), .lit (.int .u8 29), .lit (.int .u8 17), .lit (.int .u8 4), .lit (.int .u8 62), .lit (.int .u8 47), .lit (.int .u8 59), .lit (.int .u8 36), .lit (.int .u8 45), .lit (.int .u8 43), .lit (.int .u8 51), .lit (.int .u8 22), .lit (.int .u8 53), .lit (.int .u8 39), .lit (.int .u8 33), .lit (.int .u8 30), .lit (.int .u8 24), .lit (.int .u8 18), .lit (.int .u8 12), .lit (.int .u8 5), .lit (.int .u8 63), .lit (.int .u8 55), .lit (.int .u8 48), .lit (.int .u8 27), .lit (.int .u8 60), .lit (.int .u8 41), .lit (.int .u8 37), .lit (.int .u8 16), .lit (.int .u8 46), .lit (.int .u8 35), .lit (.int .u8 44), .lit (.int .u8 21), .lit (.int .u8 52), .lit (.int .u8 32), .lit (.int .u8 23), .lit (.int .u8 11), .lit (.int .u8 54), .lit (.int .u8 26), .lit (.int .u8 40), .lit (.int .u8 15), .lit (.int .u8 34), .lit (.int .u8 20), .lit (.int .u8 31), .lit (.int .u8 10), .lit (.int .u8 25), .lit (.int .u8 14), .lit (.int .u8 19), .lit (.int .u8 9), .lit (.int .u8 13), .lit (.int .u8 8), .lit (.int .u8 7), .lit (.int .u8 6)]

/-- 'telltalelaw04.NoteOfs': WHATEVER THE INPUT: true; the input reads as it did. -/
def noteOfsSpec : ChangeSpec := { name := "noteOfs", fn := fun _ => fun
  | [d1, d2] => { results := [.lit (.bool true)], args := [d1, d2] }
  | _ => none }
def noteOfsRow : OpenClaim := { program := "ytldcgmnfohhjbaadoor", sum := "a38a16af4c639f863fb15a0dce160736e2fe3088b3b6a7f2db7fe05c9e3ed0f5", func := "telltale/telltalelaw04.NoteOfs", spec := "noteOfs", unfollowed := true, recurses := true, named := ["math/bits.deBruijn64tab"], apart := false, laid := [("math/bits.deBruijn64tab", laid_math_bits_deBruijn64tab)] }
def NoteOfsSaid : Prop := noteOfsRow.holds Tryd.pinned (OpenSpec.ofChange noteOfsSpec)

/-- ITS FALSE NEIGHBOUR: 'it returns false'. Refute it at one input. -/
def noteOfsWrong : ChangeSpec := { name := "noteOfs", fn := fun _ => fun
  | [d1, d2] => { results := [.lit (.bool false)], args := [d1, d2] }
  | _ => none }
def NoteOfsWrongFalsely : Prop := noteOfsRow.holds Tryd.pinned (OpenSpec.ofChange noteOfsWrong)

/-- 'telltalelaw04.NoteForms': WHATEVER THE INPUT: true; the input reads as it did. -/
def noteFormsSpec : ChangeSpec := { name := "noteForms", fn := fun _ => fun
  | [d1, d2] => { results := [.lit (.bool true)], args := [d1, d2] }
  | _ => none }
def noteFormsRow : OpenClaim := { program := "ytldcgmnfohhjbaadoor", sum := "a38a16af4c639f863fb15a0dce160736e2fe3088b3b6a7f2db7fe05c9e3ed0f5", func := "telltale/telltalelaw04.NoteForms", spec := "noteForms", unfollowed := true, recurses := true, named := ["math/bits.deBruijn64tab"], apart := false, laid := [("math/bits.deBruijn64tab", laid_math_bits_deBruijn64tab)] }
def NoteFormsSaid : Prop := noteFormsRow.holds Tryd.pinned (OpenSpec.ofChange noteFormsSpec)

/-- ITS FALSE NEIGHBOUR: 'it returns false'. Refute it at one input. -/
def noteFormsWrong : ChangeSpec := { name := "noteForms", fn := fun _ => fun
  | [d1, d2] => { results := [.lit (.bool false)], args := [d1, d2] }
  | _ => none }
def NoteFormsWrongFalsely : Prop := noteFormsRow.holds Tryd.pinned (OpenSpec.ofChange noteFormsWrong)

/-- 'telltalelaw04.NoteTells': WHATEVER THE INPUT: true; the input reads as it did. -/
def noteTellsSpec : ChangeSpec := { name := "noteTells", fn := fun _ => fun
  | [d1, d2] => { results := [.lit (.bool true)], args := [d1, d2] }
  | _ => none }
def noteTellsRow : OpenClaim := { program := "ytldcgmnfohhjbaadoor", sum := "a38a16af4c639f863fb15a0dce160736e2fe3088b3b6a7f2db7fe05c9e3ed0f5", func := "telltale/telltalelaw04.NoteTells", spec := "noteTells", unfollowed := true, recurses := true, named := ["math/bits.deBruijn64tab"], apart := false, laid := [("math/bits.deBruijn64tab", laid_math_bits_deBruijn64tab)] }
def NoteTellsSaid : Prop := noteTellsRow.holds Tryd.pinned (OpenSpec.ofChange noteTellsSpec)

/-- ITS FALSE NEIGHBOUR: 'it returns false'. Refute it at one input. -/
def noteTellsWrong : ChangeSpec := { name := "noteTells", fn := fun _ => fun
  | [d1, d2] => { results := [.lit (.bool false)], args := [d1, d2] }
  | _ => none }
def NoteTellsWrongFalsely : Prop := noteTellsRow.holds Tryd.pinned (OpenSpec.ofChange noteTellsWrong)

/-- 'telltalelaw15.LogForms': WHATEVER THE INPUT: true; the input reads as it did. -/
def logFormsSpec : ChangeSpec := { name := "logForms", fn := fun _ => fun
  | [d1, d2] => { results := [.lit (.bool true)], args := [d1, d2] }
  | _ => none }
def logFormsRow : OpenClaim := { program := "ytldcgmnfohhjbaadoor", sum := "a38a16af4c639f863fb15a0dce160736e2fe3088b3b6a7f2db7fe05c9e3ed0f5", func := "telltale/telltalelaw15.LogForms", spec := "logForms", unfollowed := true, recurses := true, named := ["math/bits.deBruijn64tab"], apart := false, laid := [("math/bits.deBruijn64tab", laid_math_bits_deBruijn64tab)] }
def LogFormsSaid : Prop := logFormsRow.holds Tryd.pinned (OpenSpec.ofChange logFormsSpec)

/-- ITS FALSE NEIGHBOUR: 'it returns false'. Refute it at one input. -/
def logFormsWrong : ChangeSpec := { name := "logForms", fn := fun _ => fun
  | [d1, d2] => { results := [.lit (.bool false)], args := [d1, d2] }
  | _ => none }
def LogFormsWrongFalsely : Prop := logFormsRow.holds Tryd.pinned (OpenSpec.ofChange logFormsWrong)

/-- 'telltalelaw15.LogAppends': WHATEVER THE INPUT: true; the input reads as it did. -/
def logAppendsSpec : ChangeSpec := { name := "logAppends", fn := fun _ => fun
  | [d1, d2] => { results := [.lit (.bool true)], args := [d1, d2] }
  | _ => none }
def logAppendsRow : OpenClaim := { program := "ytldcgmnfohhjbaadoor", sum := "a38a16af4c639f863fb15a0dce160736e2fe3088b3b6a7f2db7fe05c9e3ed0f5", func := "telltale/telltalelaw15.LogAppends", spec := "logAppends", unfollowed := true, recurses := true, named := ["math/bits.deBruijn64tab"], apart := false, laid := [("math/bits.deBruijn64tab", laid_math_bits_deBruijn64tab)] }
def LogAppendsSaid : Prop := logAppendsRow.holds Tryd.pinned (OpenSpec.ofChange logAppendsSpec)

/-- ITS FALSE NEIGHBOUR: 'it returns false'. Refute it at one input. -/
def logAppendsWrong : ChangeSpec := { name := "logAppends", fn := fun _ => fun
  | [d1, d2] => { results := [.lit (.bool false)], args := [d1, d2] }
  | _ => none }
def LogAppendsWrongFalsely : Prop := logAppendsRow.holds Tryd.pinned (OpenSpec.ofChange logAppendsWrong)

/-- 'telltalelaw15.LogWalks': WHATEVER THE INPUT: true; the input reads as it did. -/
def logWalksSpec : ChangeSpec := { name := "logWalks", fn := fun _ => fun
  | [d1, d2, d3] => { results := [.lit (.bool true)], args := [d1, d2, d3] }
  | _ => none }
def logWalksRow : OpenClaim := { program := "ytldcgmnfohhjbaadoor", sum := "a38a16af4c639f863fb15a0dce160736e2fe3088b3b6a7f2db7fe05c9e3ed0f5", func := "telltale/telltalelaw15.LogWalks", spec := "logWalks", unfollowed := true, recurses := true, named := ["math/bits.deBruijn64tab"], apart := false, laid := [("math/bits.deBruijn64tab", laid_math_bits_deBruijn64tab)] }
def LogWalksSaid : Prop := logWalksRow.holds Tryd.pinned (OpenSpec.ofChange logWalksSpec)

/-- ITS FALSE NEIGHBOUR: 'it returns false'. Refute it at one input. -/
def logWalksWrong : ChangeSpec := { name := "logWalks", fn := fun _ => fun
  | [d1, d2, d3] => { results := [.lit (.bool false)], args := [d1, d2, d3] }
  | _ => none }
def LogWalksWrongFalsely : Prop := logWalksRow.holds Tryd.pinned (OpenSpec.ofChange logWalksWrong)

/-- 'telltalelaw15.LogCuts': WHATEVER THE INPUT: true; the input reads as it did. -/
def logCutsSpec : ChangeSpec := { name := "logCuts", fn := fun _ => fun
  | [d] => { results := [.lit (.bool true)], args := [d] }
  | _ => none }
def logCutsRow : OpenClaim := { program := "ytldcgmnfohhjbaadoor", sum := "a38a16af4c639f863fb15a0dce160736e2fe3088b3b6a7f2db7fe05c9e3ed0f5", func := "telltale/telltalelaw15.LogCuts", spec := "logCuts", unfollowed := true, recurses := true, named := ["math/bits.deBruijn64tab"], apart := false, laid := [("math/bits.deBruijn64tab", laid_math_bits_deBruijn64tab)] }
def LogCutsSaid : Prop := logCutsRow.holds Tryd.pinned (OpenSpec.ofChange logCutsSpec)

/-- ITS FALSE NEIGHBOUR: 'it returns false'. Refute it at one input. -/
def logCutsWrong : ChangeSpec := { name := "logCuts", fn := fun _ => fun
  | [d] => { results := [.lit (.bool false)], args := [d] }
  | _ => none }
def LogCutsWrongFalsely : Prop := logCutsRow.holds Tryd.pinned (OpenSpec.ofChange logCutsWrong)

/- THE SECOND FORM. 'bulk': how many values and letters a reading holds, each counted each time it is reached (what is shared counts as often as it is met; a slice's spare places count too). A statement '..UptoSaid' is the law's where the arguments, and the package variables that the reading takes, are together of bulk at most 1048576: NARROWER than '..Said'. Prove '..Said' where nothing that the law and all that it calls make is longer than what came in: it says more and counts as full. Else prove '..UptoSaid'. A law counts once. -/
mutual
def uptoBulk {H : Type} : DataW H → Nat
  | .lit (.string bytes) => bytes.length + 1
  | .lit _ => 1
  | .nil => 1
  | .ptr d => uptoBulk d + 1
  | .slice elems spare => uptoBulkAll elems + uptoBulkAll spare + 1
  | .agg parts => uptoBulkAll parts + 1
  | .iface _ d => uptoBulk d + 1
  | .map entries => uptoBulkEntries entries + 1
  | .held _ => 1
def uptoBulkAll {H : Type} : List (DataW H) → Nat
  | [] => 0
  | d :: r => uptoBulk d + uptoBulkAll r
def uptoBulkEntries {H : Type} : List (Lit × DataW H) → Nat
  | [] => 0
  | x :: r => uptoBulkEntry x + uptoBulkEntries r
def uptoBulkEntry {H : Type} : Lit × DataW H → Nat
  | (.string bytes, d) => bytes.length + uptoBulk d + 1
  | (_, d) => uptoBulk d + 1
 end
def uptoSmall : (H : Type) → List (DataW H) → Bool := fun _ ds => decide (uptoBulkAll ds ≤ 1048576)
def OpenSpec.upto (s : _root_.Go.ChangeSpec) : _root_.Go.OpenSpec := { _root_.Go.OpenSpec.ofChange s with cond := some uptoSmall }

/-- 'telltalelaw04.NoteOfs', WHERE WHAT IT READS IS OF BULK AT MOST 1048576: true; the input reads as it did. -/
def noteOfsUptoRow : OpenClaim := { program := "ytldcgmnfohhjbaadoor", sum := "a38a16af4c639f863fb15a0dce160736e2fe3088b3b6a7f2db7fe05c9e3ed0f5", func := "telltale/telltalelaw04.NoteOfs", spec := "noteOfs", unfollowed := true, recurses := true, named := ["math/bits.deBruijn64tab"], apart := false, laid := [("math/bits.deBruijn64tab", laid_math_bits_deBruijn64tab)], narrowed := true }
def NoteOfsUptoSaid : Prop := noteOfsUptoRow.holds Tryd.pinned (OpenSpec.upto noteOfsSpec)

/-- 'telltalelaw04.NoteForms', WHERE WHAT IT READS IS OF BULK AT MOST 1048576: true; the input reads as it did. -/
def noteFormsUptoRow : OpenClaim := { program := "ytldcgmnfohhjbaadoor", sum := "a38a16af4c639f863fb15a0dce160736e2fe3088b3b6a7f2db7fe05c9e3ed0f5", func := "telltale/telltalelaw04.NoteForms", spec := "noteForms", unfollowed := true, recurses := true, named := ["math/bits.deBruijn64tab"], apart := false, laid := [("math/bits.deBruijn64tab", laid_math_bits_deBruijn64tab)], narrowed := true }
def NoteFormsUptoSaid : Prop := noteFormsUptoRow.holds Tryd.pinned (OpenSpec.upto noteFormsSpec)

/-- 'telltalelaw04.NoteTells', WHERE WHAT IT READS IS OF BULK AT MOST 1048576: true; the input reads as it did. -/
def noteTellsUptoRow : OpenClaim := { program := "ytldcgmnfohhjbaadoor", sum := "a38a16af4c639f863fb15a0dce160736e2fe3088b3b6a7f2db7fe05c9e3ed0f5", func := "telltale/telltalelaw04.NoteTells", spec := "noteTells", unfollowed := true, recurses := true, named := ["math/bits.deBruijn64tab"], apart := false, laid := [("math/bits.deBruijn64tab", laid_math_bits_deBruijn64tab)], narrowed := true }
def NoteTellsUptoSaid : Prop := noteTellsUptoRow.holds Tryd.pinned (OpenSpec.upto noteTellsSpec)

/-- 'telltalelaw15.LogForms', WHERE WHAT IT READS IS OF BULK AT MOST 1048576: true; the input reads as it did. -/
def logFormsUptoRow : OpenClaim := { program := "ytldcgmnfohhjbaadoor", sum := "a38a16af4c639f863fb15a0dce160736e2fe3088b3b6a7f2db7fe05c9e3ed0f5", func := "telltale/telltalelaw15.LogForms", spec := "logForms", unfollowed := true, recurses := true, named := ["math/bits.deBruijn64tab"], apart := false, laid := [("math/bits.deBruijn64tab", laid_math_bits_deBruijn64tab)], narrowed := true }
def LogFormsUptoSaid : Prop := logFormsUptoRow.holds Tryd.pinned (OpenSpec.upto logFormsSpec)

/-- 'telltalelaw15.LogAppends', WHERE WHAT IT READS IS OF BULK AT MOST 1048576: true; the input reads as it did. -/
def logAppendsUptoRow : OpenClaim := { program := "ytldcgmnfohhjbaadoor", sum := "a38a16af4c639f863fb15a0dce160736e2fe3088b3b6a7f2db7fe05c9e3ed0f5", func := "telltale/telltalelaw15.LogAppends", spec := "logAppends", unfollowed := true, recurses := true, named := ["math/bits.deBruijn64tab"], apart := false, laid := [("math/bits.deBruijn64tab", laid_math_bits_deBruijn64tab)], narrowed := true }
def LogAppendsUptoSaid : Prop := logAppendsUptoRow.holds Tryd.pinned (OpenSpec.upto logAppendsSpec)

/-- 'telltalelaw15.LogWalks', WHERE WHAT IT READS IS OF BULK AT MOST 1048576: true; the input reads as it did. -/
def logWalksUptoRow : OpenClaim := { program := "ytldcgmnfohhjbaadoor", sum := "a38a16af4c639f863fb15a0dce160736e2fe3088b3b6a7f2db7fe05c9e3ed0f5", func := "telltale/telltalelaw15.LogWalks", spec := "logWalks", unfollowed := true, recurses := true, named := ["math/bits.deBruijn64tab"], apart := false, laid := [("math/bits.deBruijn64tab", laid_math_bits_deBruijn64tab)], narrowed := true }
def LogWalksUptoSaid : Prop := logWalksUptoRow.holds Tryd.pinned (OpenSpec.upto logWalksSpec)

/-- 'telltalelaw15.LogCuts', WHERE WHAT IT READS IS OF BULK AT MOST 1048576: true; the input reads as it did. -/
def logCutsUptoRow : OpenClaim := { program := "ytldcgmnfohhjbaadoor", sum := "a38a16af4c639f863fb15a0dce160736e2fe3088b3b6a7f2db7fe05c9e3ed0f5", func := "telltale/telltalelaw15.LogCuts", spec := "logCuts", unfollowed := true, recurses := true, named := ["math/bits.deBruijn64tab"], apart := false, laid := [("math/bits.deBruijn64tab", laid_math_bits_deBruijn64tab)], narrowed := true }
def LogCutsUptoSaid : Prop := logCutsUptoRow.holds Tryd.pinned (OpenSpec.upto logCutsSpec)

end Rows
end Go.Proofs.YtldcgmnfohhjbaaDoor
