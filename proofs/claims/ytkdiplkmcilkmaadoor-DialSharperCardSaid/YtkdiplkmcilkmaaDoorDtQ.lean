/-
  Contracts of functions, proved by going through their code. No conditions.
-/
import Derived.Test.YtkdiplkmcilkmaaDoorDaw
import Derived.Test.YtkdiplkmcilkmaaDoorDay
import Derived.Test.YtkdiplkmcilkmaaDoorDtG
import Derived.Test.YtkdiplkmcilkmaaDoorDtP
set_option linter.unusedVariables false
set_option linter.unusedSimpArgs false
namespace Go.Proofs.Ds
open Go Go.Pg Go.Proofs
section
variable {p mi di : Nat} {tr t0 ap s : Int}
theorem drop_and {a b u v : Nat} (h : a &&& b = 0) : dropB a u &&& dropB b v = 0 := by
  apply Nat.eq_of_testBit_eq
  intro k
  have := congrArg (fun z => z.testBit k) h
  simp only [Nat.testBit_and, Nat.zero_testBit] at this ⊢
  rw [dropB_bit, dropB_bit]
  cases h1 : a.testBit k <;> cases h2 : b.testBit k <;> simp_all
end
theorem within_makers {l : List Key} {k : Key} {m : Mark} {i : Ink} (hk : k ∈ l) (h : madeF k m i = true) : withinF (makersF l m i) k.id = true := by
  unfold withinF makersF
  rw [List.any_eq_true]
  exact ⟨k.id, List.mem_map.2 ⟨k, List.mem_filter.2 ⟨hk, h⟩, rfl⟩, decide_eq_true rfl⟩
end Go.Proofs.Ds
