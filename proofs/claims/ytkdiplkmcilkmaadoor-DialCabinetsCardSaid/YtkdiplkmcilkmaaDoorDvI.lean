/-
  Contracts of functions, proved by going through their code. No conditions.
-/
import Derived.Test.YtkdiplkmcilkmaaDoorDan
import Derived.Test.YtkdiplkmcilkmaaDoorDao
import Derived.Test.YtkdiplkmcilkmaaDoorDas
import Derived.Test.YtkdiplkmcilkmaaDoorDat
import Derived.Test.YtkdiplkmcilkmaaDoorDau
import Derived.Test.YtkdiplkmcilkmaaDoorDaw
import Derived.Test.YtkdiplkmcilkmaaDoorDay
import Derived.Test.YtkdiplkmcilkmaaDoorDbb
import Derived.Test.YtkdiplkmcilkmaaDoorDtI
import Derived.Test.YtkdiplkmcilkmaaDoorDtP
set_option linter.unusedVariables false
set_option linter.unusedSimpArgs false
set_option maxHeartbeats 8000000
set_option maxRecDepth 10000
namespace Go.Proofs.Ds
open Go Go.Pg Go.Proofs
theorem makers_len (l : List Key) (m : Mark) (i : Ink) : (makersF l m i).length ≤ l.length := by
  unfold makersF
  rw [List.length_map]
  exact List.length_filter_le _ _
end Go.Proofs.Ds
