/-
  Contracts of functions, proved by going through their code. No conditions.
-/
import Derived.Test.YtdlflcambboojaaVaa
import Derived.Test.YtdlflcambboojaaVbb
import Derived.Test.YtdlflcambboojaaN8KuA
set_option linter.unusedVariables false
set_option linter.unusedSimpArgs false
set_option maxHeartbeats 8000000
set_option maxRecDepth 10000
namespace Go.Proofs.Ks
open Go Go.Pg Go.Proofs
abbrev R00 : Rec := ⟨⟨0, ⟨0, 0⟩, ⟨0, 0⟩, ⟨0, 0⟩, ⟨0, 0⟩, ⟨0, 0⟩, []⟩, [], []⟩
theorem Without_bad (r : Rec) (ids : List Int) (hc : checkE r ≠ 0) : OKv cx 38 [.agg (eRec r), lInt ids] (.tup [.agg (eRec R00), ai (checkE r)]) := by
  have hcF : (checkE r = 0) = False := eq_false hc
  refine OKat.of_bodyM cx_ok (rs := [.cell 4 30, .tmp 5]) Try.func38 rfl (by decide +kernel) rfl (by simp [Try.ntmps38]) ?_
  simp only [Try.ntmps38]
  repeat' first
    | apply jA | apply jB | apply jC | apply jD | apply jE | apply jF | apply jG | apply jH | apply jI
    | ((first | (apply jK cx_ok; decide) | apply jM cx_ok | apply jR); (simp (disch := omega) only [push_cast, simprocAttr, hcF, natNe, zI, zG, zJ, zM] <;> rfl); all_goals try ((with_reducible intro hI); try first | (cases hI; done) | (simp only [INTS, zL] at hI; try first | (exfalso; omega) | (have hT : True := hI; clear hT hI))))
    | ((apply jV cx_ok; decide); (iterate 2 (simp (disch := omega) only [push_cast, simprocAttr, hcF, natNe, zI, zG, zJ, zM] <;> rfl)); (with_reducible first | exact Check_ok r); try first | rfl | (simp (disch := omega) only [push_cast, simprocAttr, hcF, natNe, zI, zG, zJ, zM] <;> rfl))
    | ((first | apply jl | apply jm); (iterate 2 (try (simp (disch := omega) only [push_cast, simprocAttr, hcF, natNe, zI, zG, zJ, zM] <;> rfl))))

  all_goals (show _ = _; rfl)
end Go.Proofs.Ks
