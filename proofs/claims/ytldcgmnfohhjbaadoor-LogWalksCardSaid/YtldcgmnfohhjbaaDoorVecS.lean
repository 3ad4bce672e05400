/- Walks over law02.alive. -/
import Derived.Test.YtldcgmnfohhjbaaDoorVecR
namespace Go.Proofs.YtldcgmnfohhjbaaDoor
open Go.RowKit
set_option maxRecDepth 100000

theorem alive_vec : vec (jn [[(5, 0)], [(2, 3)]]) = [(5, 0), (2, 3)] := by decide +kernel
theorem alive_has : hasB [(5, 0), (2, 3)] (5, 0) = true := by decide +kernel
theorem alive_hasnt : hasB [(5, 0), (2, 3)] (3, 3) = false := by decide +kernel

end Go.Proofs.YtldcgmnfohhjbaaDoor
