/-
  Contracts of functions, proved by going through their code. No conditions.
-/
import Derived.Test.YtdlflcambboojaaKaa
import Derived.Test.YtdlflcambboojaaKbe
import Derived.Test.YtdlflcambboojaaKlZ
set_option linter.unusedVariables false
set_option linter.unusedSimpArgs false
set_option maxHeartbeats 8000000
set_option maxRecDepth 10000
namespace Go.Proofs.Ks
open Go Go.Pg Go.Proofs
theorem tight_facts {r : Rec} (hc : checkE r = 0) (hq : consP r [] = true) : OKv cx 62 [.agg (eRec r), .lst []] (.tup [encM (tightP r), ab true]) ∧ Dim (tightP r) (nodesR r []).length ∧ (nodesR r []).length ≤ 100 := by
  have hv := checkE_V hc
  obtain ⟨f1, f2, f3, f4, f5⟩ := links_facts (more := []) hv (by decide) nomore
  have ht := tight_is hc hq
  exact ⟨Tight_some r [] hv (by decide) nomore ht, (closure_bd f1 f3 f4 ht).1, f1⟩
end Go.Proofs.Ks
