/-
  Contracts of functions, proved by going through their code. No conditions.
-/
import Derived.Test.YtdlflcambboojaaRaa
import Derived.Test.YtdlflcambboojaaRaw
import Derived.Test.YtdlflcambboojaaRbb
import Derived.Test.YtdlflcambboojaaRbd
import Derived.Test.YtdlflcambboojaaRbf
import Derived.Test.YtdlflcambboojaaN15KoB
import Derived.Test.YtdlflcambboojaaN15KlT
set_option linter.unusedVariables false
set_option linter.unusedSimpArgs false
set_option maxHeartbeats 8000000
set_option maxRecDepth 10000
namespace Go.Proofs.Ks
open Go Go.Pg Go.Proofs
theorem stopsE_lt {fin : Int} : ∀ {l : List Stop} {b : Int}, stopsE fin b l = 0 → (∀ t ∈ l, b < t.pos) ∧ l.Pairwise (fun a c => a.pos ≠ c.pos)
  | [], _, _ => ⟨fun t h => (by cases h), List.Pairwise.nil⟩
  | y :: l, b, h => by
    unfold stopsE at h
    split at h
    · cases h
    · rename_i hc
      obtain ⟨h1, h2⟩ := stopsE_lt h
      have hb : b < y.pos := by
        by_cases e : b < y.pos
        · exact e
        · exact absurd (.inl (by omega)) hc
      refine ⟨fun t ht => ?_, List.pairwise_cons.2 ⟨fun t ht e => ?_, h2⟩⟩
      · rcases List.mem_cons.1 ht with rfl | ht
        · exact hb
        · have := h1 t ht; omega
      · have := h1 t ht; omega
theorem stops_apart {s : Session} (h : checkE ⟨s, [], []⟩ = 0) : s.stops.Pairwise (fun a c => a.pos ≠ c.pos) := by
  have h1 : sessE s = 0 := (checkE_parts h).1
  unfold sessE at h1
  split at h1
  · cases h1
  · split at h1
    · exact (stopsE_lt h1).2
    · cases h1
end Go.Proofs.Ks
