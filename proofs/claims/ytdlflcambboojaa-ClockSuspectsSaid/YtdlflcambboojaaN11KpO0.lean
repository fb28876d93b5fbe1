/-
  Contracts of functions, proved by going through their code. No conditions.
-/
import Derived.Test.YtdlflcambboojaaSaa
import Derived.Test.YtdlflcambboojaaSan
set_option linter.unusedVariables false
set_option linter.unusedSimpArgs false
set_option maxHeartbeats 8000000
set_option maxRecDepth 10000
namespace Go.Proofs.Ks
open Go Go.Pg Go.Proofs
theorem spanEq (a b : Span) : (a.lo == b.lo && a.hi == b.hi) = decide (a = b) := by
  obtain ⟨a1, a2⟩ := a
  obtain ⟨b1, b2⟩ := b
  by_cases h1 : a1 = b1 <;> by_cases h2 : a2 = b2 <;> simp [h1, h2]
end Go.Proofs.Ks
