/-
  Contracts of functions, proved by going through their code. No conditions.
-/
import Derived.Test.YtkdiplkmcilkmaaDoorDtR
set_option linter.unusedVariables false
set_option linter.unusedSimpArgs false
namespace Go.Proofs.Ds
open Go Go.Pg Go.Proofs
def anyP (l : List (Int × Int)) (a b : Int) : Bool := l.any fun p => p.1 == a && p.2 == b
theorem pairsOf_len (a : Key) (l : List Key) (m : Mark) (i : Ink) : (pairsOf a l m i).length ≤ l.length := by
  unfold pairsOf
  rw [List.length_map]
  exact List.length_filter_le _ _
theorem pairs_len (m : Mark) (i : Ink) : ∀ l : List Key, (pairsF l m i).length ≤ l.length * l.length
  | [] => Nat.zero_le _
  | a :: l => by
    unfold pairsF
    have h1 := pairsOf_len a l m i
    have h2 := pairs_len m i l
    rw [List.length_append, List.length_cons, Nat.add_mul, Nat.mul_add]
    omega
end Go.Proofs.Ds
