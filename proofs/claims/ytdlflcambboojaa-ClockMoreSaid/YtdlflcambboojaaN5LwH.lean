/-
  Contracts of functions, proved by going through their code. No conditions.
-/
import Derived.Test.YtdlflcambboojaaMaa
import Derived.Test.YtdlflcambboojaaMba
import Derived.Test.YtdlflcambboojaaQbb
import Derived.Test.YtdlflcambboojaaQbe
import Derived.Test.YtdlflcambboojaaQbf
import Derived.Test.YtdlflcambboojaaN5KlX
set_option linter.unusedVariables false
set_option linter.unusedSimpArgs false
set_option maxHeartbeats 8000000
set_option maxRecDepth 10000
namespace Go.Proofs.Ks
open Go Go.Pg Go.Proofs
theorem Within_true (a b : Span) (h1 : b.lo ≤ a.lo) (h2 : a.hi ≤ b.hi) : OKv cx 35 [.agg (eSpan a), .agg (eSpan b)] (ab true) := by
  refine OKat.of_body (rs := [4]) Try.func35 rfl (by decide +kernel) rfl (by simp [Try.ntmps35]) ?_
  simp only [Try.ntmps35]
  repeat' first
    | apply jA | apply jB | apply jC | apply jD | apply jE | apply jF | apply jG | apply jH | apply jI
    | ((first | (apply jK cx_ok; decide) | (apply jN; rfl; decide) | apply jR); (simp (disch := omega) only [push_cast, simprocAttr, natNe, zI, zG, zJ, h1, h2] <;> rfl); all_goals try ((with_reducible intro hI); try first | (cases hI; done) | (simp only [INTS, zL] at hI; try first | (exfalso; omega) | (have hT : True := hI; clear hT hI))))
    | ((first | apply jf | apply jg); (iterate 2 (try (simp (disch := omega) only [push_cast, simprocAttr, natNe, zI, zG, zJ, h1, h2] <;> rfl))))

  all_goals (show _ = _; rfl)
end Go.Proofs.Ks
