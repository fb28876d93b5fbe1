/-
  Contracts of functions, proved by going through their code. No conditions.
-/
import Derived.Test.YtdlflcambboojaaMaa
import Derived.Test.YtdlflcambboojaaMaw
import Derived.Test.YtdlflcambboojaaMbd
import Derived.Test.YtdlflcambboojaaMbf
import Derived.Test.YtdlflcambboojaaN18KlT
set_option linter.unusedVariables false
set_option linter.unusedSimpArgs false
set_option maxHeartbeats 8000000
set_option maxRecDepth 10000
namespace Go.Proofs.Ks
open Go Go.Pg Go.Proofs
theorem AW.seqS {C : Cx} {N : Nat} {x y : Code} {Q : Exit → St → Prop} {s : St} (h : AW C N x (thenQ (fun s => Pg.Stop (AW C N y Q s)) Q) s) : AW C N (.seq x y) Q s :=
  AW.seq (AW.mono h fun e s' hq => by cases e <;> first | exact hq.get | exact hq)
end Go.Proofs.Ks
