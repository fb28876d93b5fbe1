/-
  Contracts of functions, proved by going through their code. No conditions.
-/
import Derived.Test.YtdlflcambboojaaMaa
import Derived.Test.YtdlflcambboojaaMaz
import Derived.Test.YtdlflcambboojaaMba
import Derived.Test.YtdlflcambboojaaN5KlY
set_option linter.unusedVariables false
set_option linter.unusedSimpArgs false
namespace Go.Proofs.Ks
open Go Go.Pg Go.Proofs
theorem sumS_bd {f : Stop → Int} {x y : Int} : ∀ {l : List Stop}, (∀ t ∈ l, 0 ≤ f t ∧ f t ≤ 36000) → 0 ≤ sumS f x y l 0 ∧ sumS f x y l 0 ≤ 36000 * (l.length : Int)
  | [], _ => by simp [sumS]
  | t :: l, h => by
    have ih := sumS_bd (x := x) (y := y) (fun t ht => h t (List.mem_cons_of_mem _ ht))
    have h0 := h t (by simp)
    unfold sumS
    rw [List.length_cons]
    split
    · rw [sumS_go f x y l]; omega
    · omega
theorem leastR_bd {s : Session} (hs : s.R) {x y : Int} (h0 : 0 ≤ x) (h1 : x ≤ y) (h2 : y ≤ 43200) : 0 ≤ (leastR s x y).1 ∧ (leastR s x y).2 ≤ 200000 := by
  obtain ⟨r1, r2, r3⟩ := hs.rate
  have hn := hs.nstops
  rw [(leastR_eq s x y).1, (leastR_eq s x y).2]
  have s1 := sumS_bd (f := (·.secs.lo)) (x := x) (y := y) (l := s.stops) (fun t ht => by have := hs.stops t ht; omega)
  have s2 := sumS_bd (f := (·.secs.hi)) (x := x) (y := y) (l := s.stops) (fun t ht => by have := hs.stops t ht; omega)
  have d1 := fl_nn (a := (y - x) * 1000000) (d := s.rate.hi) (by omega) (by omega)
  have d2 := (div_bound (n := (y - x) * 1000000 + s.rate.lo - 1) (d := s.rate.lo) (by omega) (by omega) (by omega)).2
  omega
theorem marks_bd {r : Rec} (hv : r.V) {p : Int} (h : p ∈ marksR r []) : 0 ≤ p ∧ p ≤ 43200 := by
  obtain ⟨z1, z2, z3⟩ := hv.z
  obtain ⟨f1, f2, f3⟩ := hv.f
  rcases marksR_mem.1 h with h | ⟨u, hu, h⟩ | h
  · omega
  · have := hv.strikes u hu; omega
  · cases h
end Go.Proofs.Ks
