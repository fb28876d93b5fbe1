/-
  Contracts of functions, proved by going through their code. No conditions.
-/
import Derived.Test.YtkdiplkmcilkmaaDoorDtO
set_option linter.unusedVariables false
set_option linter.unusedSimpArgs false
set_option maxHeartbeats 8000000
set_option maxRecDepth 10000
namespace Go.Proofs.Ds
open Go Go.Pg Go.Proofs
def pairOK (a b : Key) (m : Mark) (i : Ink) : Bool := decide (a.track = b.track) && madeF ⟨0, a.track, ((a.pat.toNat ||| b.pat.toNat : Nat) : Int)⟩ m i
end Go.Proofs.Ds
