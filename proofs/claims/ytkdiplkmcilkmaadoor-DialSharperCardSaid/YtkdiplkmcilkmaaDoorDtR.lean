/-
  Contracts of functions, proved by going through their code. No conditions.
-/
import Derived.Test.YtkdiplkmcilkmaaDoorDtQ
set_option linter.unusedVariables false
set_option linter.unusedSimpArgs false
namespace Go.Proofs.Ds
open Go Go.Pg Go.Proofs
theorem makers_mem {l : List Key} {m : Mark} {i : Ink} {d : Int} (h : d ∈ makersF l m i) : ∃ k ∈ l, madeF k m i = true ∧ k.id = d := by
  unfold makersF at h
  obtain ⟨k, hk, e⟩ := List.mem_map.1 h
  obtain ⟨h1, h2⟩ := List.mem_filter.1 hk
  exact ⟨k, h1, h2, e⟩
section
variable {p S B : Nat} {sh : Int} {i : Ink}
end
end Go.Proofs.Ds
