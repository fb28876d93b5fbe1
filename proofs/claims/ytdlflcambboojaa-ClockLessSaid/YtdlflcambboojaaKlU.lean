/-
  Contracts of functions, proved by going through their code. No conditions.
-/
import Derived.Test.YtdlflcambboojaaKaa
import Derived.Test.YtdlflcambboojaaKbb
import Derived.Test.YtdlflcambboojaaKbe
import Derived.Test.YtdlflcambboojaaKlT
set_option linter.unusedVariables false
set_option linter.unusedSimpArgs false
namespace Go.Proofs.Ks
open Go Go.Pg Go.Proofs
def spansQ (r : Rec) : List Span × Int := if checkE r = 0 then (if consP r [] = true then (spansP r, 0) else ([], 9)) else ([], checkE r)
theorem Spans_ok (r : Rec) : OKv cx 34 [.agg (eRec r)] (.tup [lSpan (spansQ r).1, ai (spansQ r).2]) := by
  unfold spansQ
  rcases solved0 r with ⟨h1, h2⟩ | ⟨h1, h2, h3⟩ | ⟨h1, h2, h3⟩
  · rw [if_neg h1]
    exact Spans_err r _ h1 h2
  · rw [if_pos h1, h2, if_neg (by decide)]
    exact Spans_err r 9 (by decide) h3
  · rw [if_pos h1, h2, if_pos rfl]
    exact Spans_good r h1 h2
end Go.Proofs.Ks
