/- Walks over law04.alive and the laws NoteForms, NoteOfs. -/
import Derived.Test.YticnfjfdeagmaaaDoorNtD
import Derived.Test.YticnfjfdeagmaaaDoorNtB
namespace Go.Proofs.YticnfjfdeagmaaaDoor
open Go.RowKit
set_option maxRecDepth 100000

theorem alive_ok : ofOk [(5, 0)] ((6, 1), 3, false) = true := by decide +kernel
theorem alive_end : vec (jn [[(5, 0)], [(6, 1)]]) = [(5, 0), (6, 1)] := by decide +kernel
theorem alive_nt : ofNt [(5, 0)] ((6, 1), 3, false) = ⟨[(5, 0)], [(5, 0), (6, 1)], [], [((6, 1), 3, false)]⟩ := by
  unfold ofNt; rw [if_pos alive_ok, alive_end]
theorem alive_f : ntF ⟨[(5, 0)], [(5, 0), (6, 1)], [], [((6, 1), 3, false)]⟩ = true := by decide +kernel
theorem alive_n1 : ntNews ⟨[(5, 0)], [(5, 0), (6, 1)], [], [((6, 1), 3, false)]⟩ [(5, 0)] = true := by decide +kernel
theorem alive_n2 : ntNews ⟨[(5, 0)], [(5, 0), (6, 1)], [], [((6, 1), 3, false)]⟩ [(5, 0), (6, 1)] = false := by decide +kernel

end Go.Proofs.YticnfjfdeagmaaaDoor
