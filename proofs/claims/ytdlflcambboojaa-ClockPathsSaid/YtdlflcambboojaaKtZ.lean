/-
  Contracts of functions, proved by going through their code. No conditions.
-/
import Derived.Test.YtdlflcambboojaaKaa
import Derived.Test.YtdlflcambboojaaKaz
set_option linter.unusedVariables false
set_option linter.unusedSimpArgs false
set_option maxHeartbeats 8000000
set_option maxRecDepth 10000
namespace Go.Proofs.Ks
open Go Go.Pg Go.Proofs
theorem getI {ts : List Int} {i : Nat} (h : i < ts.length) : (ts.map eInt)[i]? = some (eInt (ts.getD i 0)) ∧ (ts.map eInt).getD i [] = eInt (ts.getD i 0) ∧ ts.getD i 0 ∈ ts := by
  have e : ts[i]? = some (ts.getD i 0) := by rw [List.getD_eq_getElem?_getD, List.getElem?_eq_getElem h]; rfl
  have e2 : (ts.map eInt)[i]? = some (eInt (ts.getD i 0)) := by rw [List.getElem?_map, e]; rfl
  exact ⟨e2, by rw [List.getD_eq_getElem?_getD, e2]; rfl, List.mem_of_getElem? e⟩
end Go.Proofs.Ks
