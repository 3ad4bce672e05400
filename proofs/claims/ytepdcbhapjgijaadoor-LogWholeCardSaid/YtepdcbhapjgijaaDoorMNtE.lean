/- Texts of one layer in one file: NtE, NtX. -/
import Derived.Test.YtepdcbhapjgijaaDoorNtD
import Derived.Test.YtepdcbhapjgijaaDoorNtB
import Derived.Test.YtepdcbhapjgijaaDoorNt1
import Derived.Test.YtepdcbhapjgijaaDoorMOld
namespace Go.Proofs.YtepdcbhapjgijaaDoor
open Go.RowKit
set_option maxRecDepth 100000

theorem alive_ok : ofOk [(5, 0)] ((6, 1), 3, false) = true := by decide +kernel
theorem alive_end : vec (jn [[(5, 0)], [(6, 1)]]) = [(5, 0), (6, 1)] := by decide +kernel
theorem alive_nt : ofNt [(5, 0)] ((6, 1), 3, false) = ⟨[(5, 0)], [(5, 0), (6, 1)], [], [((6, 1), 3, false)]⟩ := by
  unfold ofNt; rw [if_pos alive_ok, alive_end]
theorem alive_f : ntF ⟨[(5, 0)], [(5, 0), (6, 1)], [], [((6, 1), 3, false)]⟩ = true := by decide +kernel
theorem alive_n1 : ntNews ⟨[(5, 0)], [(5, 0), (6, 1)], [], [((6, 1), 3, false)]⟩ [(5, 0)] = true := by decide +kernel
theorem alive_n2 : ntNews ⟨[(5, 0)], [(5, 0), (6, 1)], [], [((6, 1), 3, false)]⟩ [(5, 0), (6, 1)] = false := by decide +kernel

end Go.Proofs.YtepdcbhapjgijaaDoor

namespace Go.Proofs.YtepdcbhapjgijaaDoor
open Go.RowKit
theorem Blk.four4 {W : World} {g : Nat} {t : TypeId} {a b c d : Value} (h : Blk W g t #[a, b, c, d]) : W.cell? ⟨g, 0, none⟩ = some a ∧ W.cell? ⟨g, 1, none⟩ = some b ∧ W.cell? ⟨g, 2, none⟩ = some c ∧ W.cell? ⟨g, 3, none⟩ = some d :=
  ⟨h.cell 0, h.cell 1, h.cell 2, h.cell 3⟩
end Go.Proofs.YtepdcbhapjgijaaDoor

