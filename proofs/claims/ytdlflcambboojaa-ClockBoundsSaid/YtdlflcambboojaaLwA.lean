/-
  Contracts of functions, proved by going through their code. No conditions.
-/
import Derived.Test.YtdlflcambboojaaKaa
import Derived.Test.YtdlflcambboojaaKaw
import Derived.Test.YtdlflcambboojaaKbd
import Derived.Test.YtdlflcambboojaaKbf
import Derived.Test.YtdlflcambboojaaKlT
set_option linter.unusedVariables false
set_option linter.unusedSimpArgs false
set_option maxHeartbeats 8000000
set_option maxRecDepth 10000
namespace Go.Proofs.Ks
open Go Go.Pg Go.Proofs
theorem stateE_eq {r : Rec} (hc : checkE r = 0) : stateE r = if consP r [] = true then 0 else 9 := by
  have hv := checkE_V hc
  unfold stateE
  rw [if_pos hc]
  rcases tight_prog hv (more := []) (by decide) nomore with ⟨o, h1, h2, _⟩ | ⟨h1, h2⟩
  · rw [h1, h2]; rfl
  · rw [h1, h2]; rfl
end Go.Proofs.Ks
