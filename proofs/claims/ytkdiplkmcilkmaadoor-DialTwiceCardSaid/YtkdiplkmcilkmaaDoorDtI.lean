/-
  Contracts of functions, proved by going through their code. No conditions.
-/
import Derived.Test.YtkdiplkmcilkmaaDoorDay
set_option linter.unusedVariables false
set_option linter.unusedSimpArgs false
set_option maxHeartbeats 8000000
set_option maxRecDepth 10000
namespace Go.Proofs.Ds
open Go Go.Pg Go.Proofs
theorem compl_all : ∀ s : Fin 4096, s.val &&& dropB 4095 s.val = 0 ∧ (s.val ||| dropB 4095 s.val) = 4095 := by decide +kernel
theorem compl {s : Nat} (h : s < 4096) : s &&& dropB 4095 s = 0 ∧ (s ||| dropB 4095 s) = 4095 := compl_all ⟨s, h⟩
end Go.Proofs.Ds
