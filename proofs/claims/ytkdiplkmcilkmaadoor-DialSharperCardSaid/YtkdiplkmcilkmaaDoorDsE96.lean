/-
  Contracts of functions, proved by going through their code. No conditions.
-/
import Derived.Test.YtkdiplkmcilkmaaDoorDam
import Derived.Test.YtkdiplkmcilkmaaDoorPkZr
set_option linter.unusedVariables false
set_option linter.unusedSimpArgs false
namespace Go.Proofs.Ds
open Go Go.Pg Go.Proofs
theorem E96 : PairFact Tryd.prog 96 3 := ⟨by kernel_rfl, Option.isSome_iff_exists.1 (show (Tryd.prog.info? 3).isSome = true by kernel_rfl), by kernel_rfl, by kernel_rfl, by kernel_rfl, by kernel_rfl⟩
end Go.Proofs.Ds
