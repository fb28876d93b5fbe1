/-
  Contracts of functions, proved by going through their code. No conditions.
-/
import Derived.Test.YtdlflcambboojaaKaa
import Derived.Test.YtdlflcambboojaaKaz
import Derived.Test.YtdlflcambboojaaKlS
set_option linter.unusedVariables false
set_option linter.unusedSimpArgs false
namespace Go.Proofs.Ks
open Go Go.Proofs
theorem facts_far {n : Nat} (hn : n ≤ 100) : (1073741823 : Int) * (n : Int) < far := by unfold far; omega
theorem tight_prog {r : Rec} (hv : r.V) {more : List Int} (hml : more.length ≤ 8) (hmb : ∀ a ∈ more, 0 ≤ a ∧ a ≤ 43200) :
    (∃ o, tightR r more = some o ∧ consP r more = true ∧ ∀ i k, i < (nodesR r more).length → spanF (nodesR r more) (linksR r more) i k = ⟨-((lengthsF (nodesR r more).length (linksR r more) (k : Int)).1.getD i 0), mget o i k⟩ ∧ (k < (nodesR r more).length → spanF (nodesR r more) (linksR r more) i k = ⟨-(mget o k i), mget o i k⟩)) ∨
    (tightR r more = none ∧ consP r more = false) := by
  obtain ⟨h1, h2, h3, h4, h5⟩ := links_facts hv hml hmb
  rcases both_ways h3 (by decide : (0 : Int) ≤ 1073741823) h4 (facts_far h1) with ⟨o, e1, e2, e3, e4⟩ | ⟨e1, e2⟩
  · refine .inl ⟨o, e1, by unfold consP; exact decide_eq_true e2, fun i k hi => ?_⟩
    have hik : spanF (nodesR r more) (linksR r more) i k = ⟨-((lengthsF (nodesR r more).length (linksR r more) (k : Int)).1.getD i 0), mget o i k⟩ := by
      unfold spanF mget
      rw [← e4 i hi]
    refine ⟨hik, fun hk => ?_⟩
    rw [hik, e4 k hk]; rfl
  · exact .inr ⟨e1, by unfold consP; exact decide_eq_false e2⟩
end Go.Proofs.Ks
