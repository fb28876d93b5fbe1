/-
  Contracts of functions, proved by going through their code. No conditions.
-/
import Derived.Test.YtdlflcambboojaaMaa
import Derived.Test.YtdlflcambboojaaMbb
import Derived.Test.YtdlflcambboojaaMbe
import Derived.Test.YtdlflcambboojaaN18KlT
set_option linter.unusedVariables false
set_option linter.unusedSimpArgs false
namespace Go.Proofs.Ks
open Go Go.Pg Go.Proofs
theorem Wk.sub {L M : List Lk} (h : ∀ l ∈ L, l ∈ M) : ∀ {p : List Lk} {i k : Nat}, Wk L i p k → Wk M i p k
  | [], _, _, hw => hw
  | _ :: _, _, _, ⟨h1, h2, h3⟩ => ⟨h _ h1, h2, Wk.sub h h3⟩
theorem NoNeg.sub {L M : List Lk} (h : ∀ l ∈ L, l ∈ M) (hn : NoNeg M) : NoNeg L := fun i p hw => hn i p (hw.sub h)
end Go.Proofs.Ks
