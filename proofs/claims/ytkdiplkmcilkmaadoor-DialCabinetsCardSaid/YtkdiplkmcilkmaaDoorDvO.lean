/-
  Contracts of functions, proved by going through their code. No conditions.
-/
import Derived.Test.YtkdiplkmcilkmaaDoorDvO1
import Derived.Test.YtkdiplkmcilkmaaDoorDvO2
import Derived.Test.YtkdiplkmcilkmaaDoorDvO3
set_option linter.unusedVariables false
set_option linter.unusedSimpArgs false
set_option maxHeartbeats 8000000
set_option maxRecDepth 10000
namespace Go.Proofs.Ds
open Go Go.Pg Go.Proofs
theorem law17_ok (hs : OKv cx 19 [] (ab true)) (l : List Key) (m : Mark) (i : Ink) (tr fr : Int) : OKv cx 17 [lKey l, .agg (eMark m), .agg (eInk i), ai tr, ai fr] (ab true) := by
  have hf1 : ∀ m e, flatA (.tup [.agg (eMark m), .v e]) = true := fun _ _ => rfl
  have hf2 : ∀ x, flatA (.v x) = true := fun _ => rfl
  have hf3 : ∀ l x, flatA (.tup [.lst l, .v x]) = false := fun _ _ => rfl
  have hf4 : ∀ m, flatA (.agg (eMark m)) = true := fun _ => rfl
  have hf5 : ∀ x y, flatA (.tup [.v x, .v y]) = true := fun _ _ => rfl
  by_cases h40 : 40 ≤ (l.length : Int)
  · have yT := eq_true h40
    refine OKat.of_body (rs := [10]) Tryd.func17 rfl (by decide +kernel) rfl (by simp [Tryd.ntmps17]) ?_
    simp only [Tryd.ntmps17]
    repeat' first
      | apply AW.seq | apply AW.region | apply AW.ret | apply AW.block | apply AW.skip | apply AW.exit | apply AW.scope | apply AW.label | apply AWL.nil
      | ((first | (apply W.step cx_ok; decide) | (apply W.gS; rfl; decide) | apply AW.cond); (simp (disch := omega) only [push_cast, simprocAttr, natNe, List.mem_cons, List.not_mem_nil, TyD.isAgg, Nat.add_assoc, List.map_nil, List.length_nil, beq_self_eq_true, St.back, rowAt_aftJ, idsL, idsA, idsLL, List.cons_append, List.nil_append, List.append_nil, Option.map_some, Bool.and_self, Bool.and_true, Bool.true_and, Bool.false_and, Bool.and_false, Bool.not_true, Bool.not_false, Bool.false_eq_true, hf1, hf2, hf3, hf4, hf5, yT] <;> rfl); all_goals try ((with_reducible intro hI); try first | (cases hI; done) | (simp only [INTS, not_true_eq_false] at hI; try first | (exfalso; omega) | (have hT : True := hI; clear hT hI))))
      | ((apply W.callv cx_ok; decide); (iterate 2 (simp (disch := omega) only [push_cast, simprocAttr, natNe, List.mem_cons, List.not_mem_nil, TyD.isAgg, Nat.add_assoc, List.map_nil, List.length_nil, beq_self_eq_true, St.back, rowAt_aftJ, idsL, idsA, idsLL, List.cons_append, List.nil_append, List.append_nil, Option.map_some, Bool.and_self, Bool.and_true, Bool.true_and, Bool.false_and, Bool.and_false, Bool.not_true, Bool.not_false, Bool.false_eq_true, hf1, hf2, hf3, hf4, hf5, yT] <;> rfl)); (with_reducible first | exact hs); try first | rfl | (simp (disch := omega) only [push_cast, simprocAttr, natNe, List.mem_cons, List.not_mem_nil, TyD.isAgg, Nat.add_assoc, List.map_nil, List.length_nil, beq_self_eq_true, St.back, rowAt_aftJ, idsL, idsA, idsLL, List.cons_append, List.nil_append, List.append_nil, Option.map_some, Bool.and_self, Bool.and_true, Bool.true_and, Bool.false_and, Bool.and_false, Bool.not_true, Bool.not_false, Bool.false_eq_true, hf1, hf2, hf3, hf4, hf5, yT] <;> rfl))
      | ((first | apply W.ret1 | apply W.end1); (iterate 2 (try (simp (disch := omega) only [push_cast, simprocAttr, natNe, List.mem_cons, List.not_mem_nil, TyD.isAgg, Nat.add_assoc, List.map_nil, List.length_nil, beq_self_eq_true, St.back, rowAt_aftJ, idsL, idsA, idsLL, List.cons_append, List.nil_append, List.append_nil, Option.map_some, Bool.and_self, Bool.and_true, Bool.true_and, Bool.false_and, Bool.and_false, Bool.not_true, Bool.not_false, Bool.false_eq_true, hf1, hf2, hf3, hf4, hf5, yT] <;> rfl))))

    all_goals (show _ = _; rfl)
  have yF := eq_false h40
  have c0 := CheckKeys_ok l i (by omega)
  by_cases hz : (ckF l i).1 = 0
  · have hcab := cab_of hz
    rw [cab_to hcab] at c0
    by_cases hm : bunchF l = true ∧ markV m = true ∧ inkV i = true
    · by_cases hfull : (m.seen.toNat ||| m.blank.toNat) = 4095
      · exact cab_full hs l m i tr fr (by omega) hcab c0 hm hfull
      · exact cab_part hs l m i tr fr (by omega) hcab c0 hm hfull
    · exact cab_bad hs l m i tr fr (by omega) hcab c0 hm
  · generalize ckF l i = Z at *
    have eF := eq_false hz
    have eB : (Z.1 == 0) = false := by simpa using hz
    refine OKat.of_body (rs := [10]) Tryd.func17 rfl (by decide +kernel) rfl (by simp [Tryd.ntmps17]) ?_
    simp only [Tryd.ntmps17]
    repeat' first
      | apply AW.seq | apply AW.region | apply AW.ret | apply AW.block | apply AW.skip | apply AW.exit | apply AW.scope | apply AW.label | apply AWL.nil
      | ((first | (apply W.step cx_ok; decide) | (apply W.gS; rfl; decide) | apply AW.cond); (simp (disch := omega) only [push_cast, simprocAttr, natNe, List.mem_cons, List.not_mem_nil, TyD.isAgg, Nat.add_assoc, List.map_nil, List.length_nil, beq_self_eq_true, St.back, rowAt_aftJ, idsL, idsA, idsLL, List.cons_append, List.nil_append, List.append_nil, Option.map_some, Bool.and_self, Bool.and_true, Bool.true_and, Bool.false_and, Bool.and_false, Bool.not_true, Bool.not_false, Bool.false_eq_true, hf1, hf2, hf3, hf4, hf5, yF, eF, eB] <;> rfl); all_goals try ((with_reducible intro hI); try first | (cases hI; done) | (simp only [INTS, not_true_eq_false] at hI; try first | (exfalso; omega) | (have hT : True := hI; clear hT hI))))
      | ((apply W.callv cx_ok; decide); (iterate 2 (simp (disch := omega) only [push_cast, simprocAttr, natNe, List.mem_cons, List.not_mem_nil, TyD.isAgg, Nat.add_assoc, List.map_nil, List.length_nil, beq_self_eq_true, St.back, rowAt_aftJ, idsL, idsA, idsLL, List.cons_append, List.nil_append, List.append_nil, Option.map_some, Bool.and_self, Bool.and_true, Bool.true_and, Bool.false_and, Bool.and_false, Bool.not_true, Bool.not_false, Bool.false_eq_true, hf1, hf2, hf3, hf4, hf5, yF, eF, eB] <;> rfl)); (with_reducible first | exact hs | exact c0); try first | rfl | (simp (disch := omega) only [push_cast, simprocAttr, natNe, List.mem_cons, List.not_mem_nil, TyD.isAgg, Nat.add_assoc, List.map_nil, List.length_nil, beq_self_eq_true, St.back, rowAt_aftJ, idsL, idsA, idsLL, List.cons_append, List.nil_append, List.append_nil, Option.map_some, Bool.and_self, Bool.and_true, Bool.true_and, Bool.false_and, Bool.and_false, Bool.not_true, Bool.not_false, Bool.false_eq_true, hf1, hf2, hf3, hf4, hf5, yF, eF, eB] <;> rfl))
      | ((first | apply W.ret1 | apply W.end1); (iterate 2 (try (simp (disch := omega) only [push_cast, simprocAttr, natNe, List.mem_cons, List.not_mem_nil, TyD.isAgg, Nat.add_assoc, List.map_nil, List.length_nil, beq_self_eq_true, St.back, rowAt_aftJ, idsL, idsA, idsLL, List.cons_append, List.nil_append, List.append_nil, Option.map_some, Bool.and_self, Bool.and_true, Bool.true_and, Bool.false_and, Bool.and_false, Bool.not_true, Bool.not_false, Bool.false_eq_true, hf1, hf2, hf3, hf4, hf5, yF, eF, eB] <;> rfl))))

    all_goals (show _ = _; rfl)
end Go.Proofs.Ds
