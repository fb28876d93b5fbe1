/-
  Contracts of functions, proved by going through their code. No conditions.
-/
import Derived.Test.YtkdiplkmcilkmaaDoorDbb
import Derived.Test.YtkdiplkmcilkmaaDoorDtG
set_option linter.unusedVariables false
set_option linter.unusedSimpArgs false
set_option maxHeartbeats 8000000
set_option maxRecDepth 10000
namespace Go.Proofs.Ds
open Go Go.Pg Go.Proofs
theorem law10_ok (hs : OKv cx 19 [] (ab true)) (h0 : SortKC0 Tryd.prog 130) (a b : Mark) (n0 u : Int) : OKv cx 10 [.agg (eMark a), .agg (eMark b), ai n0, ai u] (ab true) := by
  have hf1 : ∀ m e, flatA (.tup [.agg (eMark m), ai e]) = true := fun _ _ => rfl
  have hf2 : ∀ x, flatA (.v x) = true := fun _ => rfl
  obtain ⟨M1, E1, c1, c2⟩ := blur_both a n0 u
  obtain ⟨M2, E2, c3, c4⟩ := sharpen_both h0 a b
  refine OKat.of_body (rs := [8]) Tryd.func10 rfl (by decide +kernel) rfl (by simp [Tryd.ntmps10]) ?_
  simp only [Tryd.ntmps10]
  repeat' first
    | ((first | (apply W.eeN cx_ok; decide) | (apply D.eeN cx_ok; decide; decide)); rfl; rfl; exact E42; (iterate 2 (simp (disch := omega) only [push_cast, simprocAttr, natNe, List.mem_cons, List.not_mem_nil, TyD.isAgg, Nat.add_assoc, List.map_nil, List.length_nil, beq_self_eq_true, St.back, rowAt_aftF, idsL, idsA, idsLL, List.cons_append, List.nil_append, List.append_nil, Option.map_some, Bool.and_self, Bool.and_true, Bool.true_and, Bool.false_and, Bool.and_false, Bool.not_true, Bool.not_false, Bool.false_eq_true, hf1, hf2] <;> rfl)); (simp (disch := omega) only [push_cast, simprocAttr, natNe, List.mem_cons, List.not_mem_nil, TyD.isAgg, Nat.add_assoc, List.map_nil, List.length_nil, beq_self_eq_true, St.back, rowAt_aftF, idsL, idsA, idsLL, List.cons_append, List.nil_append, List.append_nil, Option.map_some, Bool.and_self, Bool.and_true, Bool.true_and, Bool.false_and, Bool.and_false, Bool.not_true, Bool.not_false, Bool.false_eq_true, hf1, hf2, cellsEqN, cellEqN] <;> rfl))
    | apply AW.seq | apply AW.region | apply AW.ret | apply AW.block | apply AW.skip | apply AW.exit | apply AW.scope | apply AW.label | apply AWL.nil
    | ((first | (apply W.step cx_ok; decide) | apply W.store cx_ok | (apply W.gS; rfl; decide) | apply AW.cond); (simp (disch := omega) only [push_cast, simprocAttr, natNe, List.mem_cons, List.not_mem_nil, TyD.isAgg, Nat.add_assoc, List.map_nil, List.length_nil, beq_self_eq_true, St.back, rowAt_aftF, idsL, idsA, idsLL, List.cons_append, List.nil_append, List.append_nil, Option.map_some, Bool.and_self, Bool.and_true, Bool.true_and, Bool.false_and, Bool.and_false, Bool.not_true, Bool.not_false, Bool.false_eq_true, hf1, hf2] <;> rfl); all_goals try ((with_reducible intro hI); try first | (cases hI; done) | (simp only [INTS, not_true_eq_false] at hI; try first | (exfalso; omega) | (have hT : True := hI; clear hT hI))))
    | ((apply W.callv cx_ok; decide); (iterate 2 (simp (disch := omega) only [push_cast, simprocAttr, natNe, List.mem_cons, List.not_mem_nil, TyD.isAgg, Nat.add_assoc, List.map_nil, List.length_nil, beq_self_eq_true, St.back, rowAt_aftF, idsL, idsA, idsLL, List.cons_append, List.nil_append, List.append_nil, Option.map_some, Bool.and_self, Bool.and_true, Bool.true_and, Bool.false_and, Bool.and_false, Bool.not_true, Bool.not_false, Bool.false_eq_true, hf1, hf2] <;> rfl)); (with_reducible first | exact hs | exact c1 | exact c2 | exact c3 | exact c4); try first | rfl | (simp (disch := omega) only [push_cast, simprocAttr, natNe, List.mem_cons, List.not_mem_nil, TyD.isAgg, Nat.add_assoc, List.map_nil, List.length_nil, beq_self_eq_true, St.back, rowAt_aftF, idsL, idsA, idsLL, List.cons_append, List.nil_append, List.append_nil, Option.map_some, Bool.and_self, Bool.and_true, Bool.true_and, Bool.false_and, Bool.and_false, Bool.not_true, Bool.not_false, Bool.false_eq_true, hf1, hf2] <;> rfl))
    | ((first | apply W.ret1 | apply W.end1); (iterate 2 (try (simp (disch := omega) only [push_cast, simprocAttr, natNe, List.mem_cons, List.not_mem_nil, TyD.isAgg, Nat.add_assoc, List.map_nil, List.length_nil, beq_self_eq_true, St.back, rowAt_aftF, idsL, idsA, idsLL, List.cons_append, List.nil_append, List.append_nil, Option.map_some, Bool.and_self, Bool.and_true, Bool.true_and, Bool.false_and, Bool.and_false, Bool.not_true, Bool.not_false, Bool.false_eq_true, hf1, hf2] <;> rfl))))

  all_goals (show _ = _; rfl)
end Go.Proofs.Ds
