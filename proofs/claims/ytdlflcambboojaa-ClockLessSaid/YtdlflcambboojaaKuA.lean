/-
  Contracts of functions, proved by going through their code. No conditions.
-/
import Derived.Test.YtdlflcambboojaaKaa
import Derived.Test.YtdlflcambboojaaKbe
import Derived.Test.YtdlflcambboojaaPkZl
set_option linter.unusedVariables false
set_option linter.unusedSimpArgs false
set_option maxHeartbeats 8000000
set_option maxRecDepth 10000
namespace Go.Proofs.Ks
open Go Go.Pg Go.Proofs
theorem E53 : EqFact Try.prog 53 := ⟨by kernel_rfl, by kernel_rfl, by kernel_rfl⟩
theorem E60 : EqFact Try.prog 60 := ⟨by kernel_rfl, by kernel_rfl, by kernel_rfl⟩
theorem E68 : EqFact Try.prog 68 := ⟨by kernel_rfl, by kernel_rfl, by kernel_rfl⟩
end Go.Proofs.Ks
