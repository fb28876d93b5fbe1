/-
  Contracts of functions, proved by going through their code. No conditions.
-/
import Derived.Test.YtkdiplkmcilkmaaDoorDtK
set_option linter.unusedVariables false
set_option linter.unusedSimpArgs false
set_option maxHeartbeats 8000000
set_option maxRecDepth 10000
namespace Go.Proofs.Ds
open Go Go.Pg Go.Proofs
theorem law15_ok (hs : OKv cx 19 [] (ab true)) (l : List Key) (k : Key) (tr fr : Int) (i : Ink) : OKv cx 15 [lKey l, .agg (eKey k), ai tr, ai fr, .agg (eInk i)] (ab true) := by
  have hf3 : ∀ x, flatA (.v x) = true := fun _ => rfl
  have hf5 : ∀ x y, flatA (.tup [.v x, .v y]) = true := fun _ _ => rfl
  by_cases h60 : 60 < (l.length : Int)
  · have hT := eq_true h60
    refine OKat.of_body (rs := [10]) Tryd.func15 rfl (by decide +kernel) rfl (by simp [Tryd.ntmps15]) ?_
    simp only [Tryd.ntmps15]
    repeat' first
      | apply AW.seq | apply AW.region | apply AW.ret | apply AW.block | apply AW.skip | apply AW.exit | apply AW.scope | apply AW.label | apply AWL.nil
      | ((first | (apply W.step cx_ok; decide) | (apply W.gS; rfl; decide) | apply AW.cond); (simp (disch := omega) only [push_cast, simprocAttr, natNe, List.mem_cons, List.not_mem_nil, TyD.isAgg, Nat.add_assoc, List.map_nil, List.length_nil, Bool.and_self, Bool.and_true, Bool.true_and, Bool.false_and, Bool.and_false, Bool.not_true, Bool.not_false, Bool.false_eq_true, hf3, hf5, St.back, rowAt_aftJ, idsL, idsA, List.cons_append, List.nil_append, List.append_nil, beq_self_eq_true, hT] <;> rfl); all_goals try ((with_reducible intro hI); try first | (cases hI; done) | (simp only [INTS, not_true_eq_false] at hI; try first | (exfalso; omega) | (have hT : True := hI; clear hT hI))))
      | ((apply W.callv cx_ok; decide); (iterate 2 (simp (disch := omega) only [push_cast, simprocAttr, natNe, List.mem_cons, List.not_mem_nil, TyD.isAgg, Nat.add_assoc, List.map_nil, List.length_nil, Bool.and_self, Bool.and_true, Bool.true_and, Bool.false_and, Bool.and_false, Bool.not_true, Bool.not_false, Bool.false_eq_true, hf3, hf5, St.back, rowAt_aftJ, idsL, idsA, List.cons_append, List.nil_append, List.append_nil, beq_self_eq_true, hT] <;> rfl)); (with_reducible first | exact hs); try first | rfl | (simp (disch := omega) only [push_cast, simprocAttr, natNe, List.mem_cons, List.not_mem_nil, TyD.isAgg, Nat.add_assoc, List.map_nil, List.length_nil, Bool.and_self, Bool.and_true, Bool.true_and, Bool.false_and, Bool.and_false, Bool.not_true, Bool.not_false, Bool.false_eq_true, hf3, hf5, St.back, rowAt_aftJ, idsL, idsA, List.cons_append, List.nil_append, List.append_nil, beq_self_eq_true, hT] <;> rfl))
      | ((first | apply W.ret1 | apply W.end1); (iterate 2 (try (simp (disch := omega) only [push_cast, simprocAttr, natNe, List.mem_cons, List.not_mem_nil, TyD.isAgg, Nat.add_assoc, List.map_nil, List.length_nil, Bool.and_self, Bool.and_true, Bool.true_and, Bool.false_and, Bool.and_false, Bool.not_true, Bool.not_false, Bool.false_eq_true, hf3, hf5, St.back, rowAt_aftJ, idsL, idsA, List.cons_append, List.nil_append, List.append_nil, beq_self_eq_true, hT] <;> rfl))))

    all_goals (show _ = _; rfl)
  have hF := eq_false h60
  obtain ⟨V1, E1, c1, c2⟩ := rival_both l k i
  obtain ⟨V2, E2, c3, c4⟩ := propose_both l tr fr i
  refine OKat.of_body (rs := [10]) Tryd.func15 rfl (by decide +kernel) rfl (by simp [Tryd.ntmps15]) ?_
  simp only [Tryd.ntmps15]
  repeat' first
    | apply AW.seq | apply AW.region | apply AW.ret | apply AW.block | apply AW.skip | apply AW.exit | apply AW.scope | apply AW.label | apply AWL.nil
    | ((first | (apply W.step cx_ok; decide) | (apply W.gS; rfl; decide) | apply AW.cond); (simp (disch := omega) only [push_cast, simprocAttr, natNe, List.mem_cons, List.not_mem_nil, TyD.isAgg, Nat.add_assoc, List.map_nil, List.length_nil, Bool.and_self, Bool.and_true, Bool.true_and, Bool.false_and, Bool.and_false, Bool.not_true, Bool.not_false, Bool.false_eq_true, hf3, hf5, St.back, rowAt_aftJ, idsL, idsA, List.cons_append, List.nil_append, List.append_nil, beq_self_eq_true, hF] <;> rfl); all_goals try ((with_reducible intro hI); try first | (cases hI; done) | (simp only [INTS, not_true_eq_false] at hI; try first | (exfalso; omega) | (have hT : True := hI; clear hT hI))))
    | ((apply W.callv cx_ok; decide); (iterate 2 (simp (disch := omega) only [push_cast, simprocAttr, natNe, List.mem_cons, List.not_mem_nil, TyD.isAgg, Nat.add_assoc, List.map_nil, List.length_nil, Bool.and_self, Bool.and_true, Bool.true_and, Bool.false_and, Bool.and_false, Bool.not_true, Bool.not_false, Bool.false_eq_true, hf3, hf5, St.back, rowAt_aftJ, idsL, idsA, List.cons_append, List.nil_append, List.append_nil, beq_self_eq_true, hF] <;> rfl)); (with_reducible first | exact hs | exact c1 | exact c2 | exact c3 | exact c4); try first | rfl | (simp (disch := omega) only [push_cast, simprocAttr, natNe, List.mem_cons, List.not_mem_nil, TyD.isAgg, Nat.add_assoc, List.map_nil, List.length_nil, Bool.and_self, Bool.and_true, Bool.true_and, Bool.false_and, Bool.and_false, Bool.not_true, Bool.not_false, Bool.false_eq_true, hf3, hf5, St.back, rowAt_aftJ, idsL, idsA, List.cons_append, List.nil_append, List.append_nil, beq_self_eq_true, hF] <;> rfl))
    | ((first | apply W.ret1 | apply W.end1); (iterate 2 (try (simp (disch := omega) only [push_cast, simprocAttr, natNe, List.mem_cons, List.not_mem_nil, TyD.isAgg, Nat.add_assoc, List.map_nil, List.length_nil, Bool.and_self, Bool.and_true, Bool.true_and, Bool.false_and, Bool.and_false, Bool.not_true, Bool.not_false, Bool.false_eq_true, hf3, hf5, St.back, rowAt_aftJ, idsL, idsA, List.cons_append, List.nil_append, List.append_nil, beq_self_eq_true, hF] <;> rfl))))

  all_goals (show _ = _; rfl)
end Go.Proofs.Ds
