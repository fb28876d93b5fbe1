/-
  Contracts of functions, proved by going through their code. No conditions.
-/
import Derived.Test.YtkdiplkmcilkmaaDoorDas
import Derived.Test.YtkdiplkmcilkmaaDoorDat
import Derived.Test.YtkdiplkmcilkmaaDoorDau
import Derived.Test.YtkdiplkmcilkmaaDoorDaw
set_option linter.unusedVariables false
set_option linter.unusedSimpArgs false
set_option maxHeartbeats 8000000
set_option maxRecDepth 10000
namespace Go.Proofs.Ds
open Go Go.Pg Go.Proofs
def coversF (a b : List Arc) : Bool := decide (meetF (spansS b) (restS (spansS a)) = [])
theorem Covers_good (h0 : SortKC0 Tryd.prog 130) (a b : List Arc) (ha : checkL a = 0) (hb : checkL b = 0) : OKv cx 52 [lArc a, lArc b] (.tup [ab (coversF a b), ai 0]) := by
  have c1 := Minus_good h0 b a hb ha
  have la := (checkL_zero ha).1
  have c2 := acceptable_ok a (by omega)
  rw [ha] at c2
  unfold coversF
  have hz : decide (((arcsF (meetF (spansS b) (restS (spansS a)))).length : Int) = 0) = decide (meetF (spansS b) (restS (spansS a)) = []) := by
    rw [Bool.eq_iff_iff, decide_eq_true_iff, decide_eq_true_iff, ← arcsF_nil]
    generalize arcsF (meetF (spansS b) (restS (spansS a))) = R
    cases R with
    | nil => exact ⟨fun _ => rfl, fun _ => rfl⟩
    | cons x R => exact ⟨fun h => by rw [List.length_cons] at h; omega, fun h => by cases h⟩
  obtain ⟨R, hR⟩ : ∃ z, arcsF (meetF (spansS b) (restS (spansS a))) = z := ⟨_, rfl⟩
  rw [hR] at hz c1
  have hz2 : ((R.length : Int) == 0) = decide (meetF (spansS b) (restS (spansS a)) = []) := by rw [← hz]; rfl
  refine OKat.of_body (rs := [4, 5]) Tryd.func52 rfl (by decide +kernel) rfl (by simp [Tryd.ntmps52]) ?_
  simp only [Tryd.ntmps52]
  repeat' first
    | apply AW.seq | apply AW.region | apply AW.ret | apply AW.block | apply AW.skip | apply AW.exit | apply AW.scope | apply AW.label | apply AWL.nil
    | ((first | (apply W.step cx_ok; decide) | apply AW.cond); (simp (disch := omega) only [push_cast, simprocAttr, natNe, List.mem_cons, List.not_mem_nil, TyD.isAgg, Nat.add_assoc, List.map_nil, List.length_nil, Bool.and_self, Bool.and_true, Bool.true_and, Bool.false_and, Bool.and_false, Bool.not_true, Bool.not_false, Bool.false_eq_true, hz, hz2] <;> rfl); all_goals try ((with_reducible intro hI); try first | (cases hI; done) | (simp only [INTS, not_true_eq_false] at hI; try first | (exfalso; omega) | (have hT : True := hI; clear hT hI))))
    | ((apply W.callv cx_ok; decide); (iterate 2 (simp (disch := omega) only [push_cast, simprocAttr, natNe, List.mem_cons, List.not_mem_nil, TyD.isAgg, Nat.add_assoc, List.map_nil, List.length_nil, Bool.and_self, Bool.and_true, Bool.true_and, Bool.false_and, Bool.and_false, Bool.not_true, Bool.not_false, Bool.false_eq_true, hz, hz2] <;> rfl)); (with_reducible first | exact c1 | exact c2); try first | rfl | (simp (disch := omega) only [push_cast, simprocAttr, natNe, List.mem_cons, List.not_mem_nil, TyD.isAgg, Nat.add_assoc, List.map_nil, List.length_nil, Bool.and_self, Bool.and_true, Bool.true_and, Bool.false_and, Bool.and_false, Bool.not_true, Bool.not_false, Bool.false_eq_true, hz, hz2] <;> rfl))
    | ((first | apply W.ret2 | apply W.end2); (iterate 2 (try (simp (disch := omega) only [push_cast, simprocAttr, natNe, List.mem_cons, List.not_mem_nil, TyD.isAgg, Nat.add_assoc, List.map_nil, List.length_nil, Bool.and_self, Bool.and_true, Bool.true_and, Bool.false_and, Bool.and_false, Bool.not_true, Bool.not_false, Bool.false_eq_true, hz, hz2] <;> rfl))))

  all_goals (show _ = _; first | rfl | rw [hz] | rw [hz2])
end Go.Proofs.Ds
