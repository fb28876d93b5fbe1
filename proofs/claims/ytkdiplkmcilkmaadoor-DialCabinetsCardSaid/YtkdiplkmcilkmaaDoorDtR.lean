/-
  Contracts of functions, proved by going through their code. No conditions.
-/
import Derived.Test.YtkdiplkmcilkmaaDoorDao
import Derived.Test.YtkdiplkmcilkmaaDoorDas
import Derived.Test.YtkdiplkmcilkmaaDoorDat
import Derived.Test.YtkdiplkmcilkmaaDoorDau
import Derived.Test.YtkdiplkmcilkmaaDoorDaw
import Derived.Test.YtkdiplkmcilkmaaDoorDay
import Derived.Test.YtkdiplkmcilkmaaDoorDtI
import Derived.Test.YtkdiplkmcilkmaaDoorDtP
set_option linter.unusedVariables false
set_option linter.unusedSimpArgs false
namespace Go.Proofs.Ds
open Go Go.Pg Go.Proofs
theorem bunch_inc {l : List Key} (h : bunchF l = true) : ∀ (j r : Nat), j + r + 1 < l.length → (l.getD j default).id < (l.getD (j + r + 1) default).id
  | j, 0, hj => by
    have := bunch_at h hj
    unfold okK at this
    rw [Bool.and_eq_true, Bool.or_eq_true, decide_eq_true_eq, decide_eq_true_eq] at this
    rcases this.2 with g | g
    · omega
    · exact g
  | j, r + 1, hj => by
    have h1 := bunch_inc h j r (by omega)
    have h2 := bunch_inc h (j + r + 1) 0 (by omega)
    have e : j + r + 1 + 0 + 1 = j + (r + 1) + 1 := by omega
    rw [e] at h2
    omega
section
variable {p S B : Nat} {sh : Int} {i : Ink}
end
end Go.Proofs.Ds
