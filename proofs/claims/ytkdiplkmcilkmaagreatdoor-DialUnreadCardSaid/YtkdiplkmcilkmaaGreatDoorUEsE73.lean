/-
  Contracts of functions, proved by going through their code. No conditions.
-/
import Derived.Test.YtkdiplkmcilkmaaGreatDoorYam
import Derived.Test.YtkdiplkmcilkmaaGreatDoorUPkZs
set_option linter.unusedVariables false
set_option linter.unusedSimpArgs false
namespace Go.Proofs.Dz
open Go Go.Pg Go.Proofs
theorem E73 : PairFact Tryz.prog 73 3 := ⟨by kernel_rfl, Option.isSome_iff_exists.1 (show (Tryz.prog.info? 3).isSome = true by kernel_rfl), by kernel_rfl, by kernel_rfl, by kernel_rfl, by kernel_rfl⟩
end Go.Proofs.Dz
