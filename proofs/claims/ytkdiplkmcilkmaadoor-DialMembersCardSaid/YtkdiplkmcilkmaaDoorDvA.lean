/-
  Contracts of functions, proved by going through their code. No conditions.
-/
import Derived.Test.YtkdiplkmcilkmaaDoorDao
import Derived.Test.YtkdiplkmcilkmaaDoorDau
import Derived.Test.YtkdiplkmcilkmaaDoorDav
import Derived.Test.YtkdiplkmcilkmaaDoorDtC
set_option linter.unusedVariables false
set_option linter.unusedSimpArgs false
set_option maxHeartbeats 8000000
set_option maxRecDepth 10000
namespace Go.Proofs.Ds
open Go Go.Pg Go.Proofs
theorem arcs_len {l : List Span} (hc : canon l) (hi : inC l) : (arcsF l).length ≤ 43200 := by
  have h := inC_len hc hi
  have : ∀ (h : Int) (m : List Span), (bumpF h m).length = m.length := by
    intro h m
    induction m with
    | nil => rfl
    | cons x m ih => rw [bumpF_cons, List.length_cons, List.length_cons, ih]
  unfold arcsF
  split
  · rw [this, List.length_drop]; omega
  · rw [List.length_map]; omega
end Go.Proofs.Ds
