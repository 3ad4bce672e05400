/- How the arguments of the laws of spans open. -/
import Derived.Test.YtafbaagjokomcaaSpT
import Derived.Test.YtafbaagjokomcaaUpto
namespace Go.Proofs.Ytafbaagjokomcaa
open Go.ChangeShapes Go.WideShapes Go.ChangeAt Go.RowKit
set_option maxRecDepth 100000

section
variable {H : Type} {enc : TypeId × Value → H} {W : World}
def pc (s : Sn.Sp) : List Value := [.int .i64 s.1, .int .i64 s.2]
theorem opens_int : Opens enc Try.prog W 3 (fun z : Int => [.int .i64 z]) (fun z _ => (Lit.int .i64 z).wf = true) := Opens.int Try.underlying3
theorem opens_ints : Opens enc Try.prog W 22 slv (SlOk W 1 (fun z : Int => [Value.int .i64 z]) (fun z _ => (Lit.int .i64 z).wf = true)) := Opens.slice Try.underlying22 (by kernel_rfl) (by decide) opens_int
theorem opens_span : Opens enc Try.prog W 44 pc (fun _ _ => True) :=
  (Opens.struct (tot := 2) Try.underlying44 (by kernel_rfl) (OpensFs.cons (s := 1) rfl (by kernel_rfl) opens_int (OpensFs.cons (s := 1) rfl (by kernel_rfl) opens_int OpensFs.nil))).map
    (fun x : Int × Int × Unit => ((x.1, x.2.1) : Sn.Sp)) pc (fun _ _ => True) (fun _ => rfl) (fun _ _ _ => trivial)
theorem opens_spans : Opens enc Try.prog W 24 slv (SlOk W 2 pc (fun _ _ => True)) := Opens.slice Try.underlying24 (by kernel_rfl) (by decide) opens_span
theorem opens_lists : Opens enc Try.prog W 38 slv (SlOk W 1 slv (SlOk W 2 pc (fun _ _ => True))) := Opens.slice Try.underlying38 (by kernel_rfl) (by decide) opens_spans
end
end Go.Proofs.Ytafbaagjokomcaa
