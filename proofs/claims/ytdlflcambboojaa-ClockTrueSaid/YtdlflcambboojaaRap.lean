/-
  Contracts of functions, proved by going through their code. No conditions.
-/
import Derived.Test.YtdlflcambboojaaRaa
import Derived.Test.YtdlflcambboojaaRao
set_option linter.unusedVariables false
set_option linter.unusedSimpArgs false
set_option maxHeartbeats 8000000
set_option maxRecDepth 10000
namespace Go.Proofs.Ks
open Go Go.Pg Go.Proofs
attribute [push_cast] eLink
theorem bothL_len (n : Nat) (x : Span) : (bothL n x).length = 2 := rfl
theorem needleL_len (l : List Node) (n : Nat) (x : Span) : (needleL l n x).length = 2 := rfl
end Go.Proofs.Ks
