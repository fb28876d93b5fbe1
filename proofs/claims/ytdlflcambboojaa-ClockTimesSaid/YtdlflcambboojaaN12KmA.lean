/-
  Contracts of functions, proved by going through their code. No conditions.
-/
import Derived.Test.YtdlflcambboojaaMaa
import Derived.Test.YtdlflcambboojaaMba
import Derived.Test.YtdlflcambboojaaMbc
import Derived.Test.YtdlflcambboojaaMbd
import Derived.Test.YtdlflcambboojaaN12KlY
import Derived.Test.YtdlflcambboojaaN12KlZ
set_option linter.unusedVariables false
set_option linter.unusedSimpArgs false
namespace Go.Proofs.Ks
open Go Go.Pg Go.Proofs
theorem nodes_few {r : Rec} (hc : checkE r = 0) : (nodesR r []).length ≤ 50 := by
  have h1 := nodesR_len r []
  have h2 := marksR_len r []
  have h3 := (checkE_V hc).nstrikes
  simp only [List.length_nil] at h2
  omega
end Go.Proofs.Ks
