/- Small words for the walks of notes through an interest. -/
import Derived.Test.YtnibkniggiokkaaDoorNtE
import Derived.Test.YtnibkniggiokkaaDoorNtD
import Derived.Test.YtnibkniggiokkaaDoorNt1
import Derived.Test.YtnibkniggiokkaaDoorBut
namespace Go.Proofs.YtnibkniggiokkaaDoor
open Go.RowKit
theorem Blk.four4 {W : World} {g : Nat} {t : TypeId} {a b c d : Value} (h : Blk W g t #[a, b, c, d]) : W.cell? ⟨g, 0, none⟩ = some a ∧ W.cell? ⟨g, 1, none⟩ = some b ∧ W.cell? ⟨g, 2, none⟩ = some c ∧ W.cell? ⟨g, 3, none⟩ = some d :=
  ⟨h.cell 0, h.cell 1, h.cell 2, h.cell 3⟩
end Go.Proofs.YtnibkniggiokkaaDoor
