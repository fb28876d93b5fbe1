/-
  Contracts of functions, proved by going through their code. No conditions.
-/
import Derived.Test.YtdlflcambboojaaMaa
import Derived.Test.YtdlflcambboojaaMbe
import Derived.Test.YtdlflcambboojaaMbf
import Derived.Test.YtdlflcambboojaaN18KuF
import Derived.Test.YtdlflcambboojaaN18LwA
set_option linter.unusedVariables false
set_option linter.unusedSimpArgs false
set_option maxHeartbeats 8000000
set_option maxRecDepth 10000
namespace Go.Proofs.Ks
open Go Go.Pg Go.Proofs
theorem tri_rows {r : Rec} (hc : checkE r = 0) (hq : consP r [] = true) {k : Nat} (hk : k < (nodesR r []).length) : ∃ row, (tightP r)[k]? = some row ∧ row.length = (nodesR r []).length ∧ ∀ c, c < (nodesR r []).length → row[c]? = some (dst r k c) := by
  refine ⟨_, ?_, len_lengths hc hq k, fun c hcn => ?_⟩
  · have := tightP_get (r := r) hk
    rw [← this, List.getD_eq_getElem?_getD, List.getElem?_eq_getElem (by rw [tightP_len]; exact hk)]; rfl
  · unfold dst
    rw [List.getD_eq_getElem?_getD, List.getElem?_eq_getElem (by rw [len_lengths hc hq]; exact hcn)]; rfl
end Go.Proofs.Ks
