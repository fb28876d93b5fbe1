/-
  Contracts of functions, proved by going through their code. No conditions.
-/
import Derived.Test.YtdlflcambboojaaVaa
import Derived.Test.YtdlflcambboojaaVau
set_option linter.unusedVariables false
set_option linter.unusedSimpArgs false
namespace Go.Proofs.Ks
open Go Go.Proofs
structure Tim (r : Rec) (M : List Int) (o ti te : Int) (ts : Nat → Int) (P : Int → Int) : Prop where
  inn : r.s.inn.lo ≤ ti - o ∧ ti - o ≤ r.s.inn.hi
  out : r.s.out.lo ≤ te - o ∧ te - o ≤ r.s.out.hi
  sights : ∀ x ∈ r.sights, x.seen.lo ≤ ts (strikeI x.strike 0 r.strikes).toNat - o ∧ ts (strikeI x.strike 0 r.strikes).toNat - o ≤ x.seen.hi
  row : ∀ j, j < r.strikes.length + 1 → (if 0 < j then ts (j - 1) else ti) ≤ (if j < r.strikes.length then ts j else te)
  zero : P r.s.zero.lo ≤ ti ∧ ti ≤ P (r.s.zero.hi + 1)
  fin : P r.s.fin.lo ≤ te ∧ te ≤ P (r.s.fin.hi + 1)
  strikes : ∀ j x, r.strikes[j]? = some x → P x.pos.lo ≤ ts j ∧ ts j ≤ P (x.pos.hi + 1)
  pairs : ∀ x ∈ M, ∀ y ∈ M, x < y → (leastR r.s x y).1 ≤ P y - P x ∧ P y - P x ≤ (leastR r.s x y).2
end Go.Proofs.Ks
