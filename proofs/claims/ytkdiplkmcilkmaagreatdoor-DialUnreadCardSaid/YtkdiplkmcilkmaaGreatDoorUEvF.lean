/-
  Contracts of functions, proved by going through their code. No conditions.
-/
import Derived.Test.YtkdiplkmcilkmaaGreatDoorUEvE
set_option linter.unusedVariables false
set_option linter.unusedSimpArgs false
set_option maxHeartbeats 8000000
set_option maxRecDepth 10000
namespace Go.Proofs.Dz
open Go Go.Pg Go.Proofs Go.Proofs.Ds
theorem law4_ok (hs : OKv cx 7 [] (ab true)) (l : List Key) (ms : List Mark) (i : Ink) : OKv cx 4 [lKey l, lMark ms, .agg (eInk i)] (ab true) := by
  have hf3 : ∀ x, flatA (.v x) = true := fun _ => rfl
  have hf5 : ∀ x y, flatA (.tup [.v x, .v y]) = true := fun _ _ => rfl
  have hf6 : ∀ l, flatA (.lst l) = false := fun _ => rfl
  have hf7 : ∀ l x, flatA (.tup [.lst l, .v x]) = false := fun _ _ => rfl
  by_cases h60 : 60 < (l.length : Int)
  · have hT := eq_true h60
    refine OKat.of_body (rs := [6]) Tryz.func4 rfl (by decide +kernel) rfl (by simp [Tryz.ntmps4]) ?_
    simp only [Tryz.ntmps4]
    repeat' first
      | apply AW.seq | apply AW.region | apply AW.ret | apply AW.block | apply AW.skip | apply AW.exit | apply AW.scope | apply AW.label | apply AWL.nil
      | ((first | (apply W.step cx_ok; decide) | (apply W.gS; rfl; decide) | apply AW.cond); (simp (disch := omega) only [push_cast, simprocAttr, natNe, List.mem_cons, List.not_mem_nil, TyD.isAgg, Nat.add_assoc, List.map_nil, List.length_nil, Bool.and_self, Bool.and_true, Bool.true_and, Bool.false_and, Bool.and_false, Bool.not_true, Bool.not_false, Bool.false_eq_true, beq_self_eq_true, hf3, hf5, St.back, rowAt_aftJ, idsL, idsA, List.cons_append, List.nil_append, List.append_nil, hf6, hf7, hT] <;> rfl); all_goals try ((with_reducible intro hI); try first | (cases hI; done) | (simp only [INTS, not_true_eq_false] at hI; try first | (exfalso; omega) | (have hT : True := hI; clear hT hI))))
      | ((apply W.callv cx_ok; decide); (iterate 2 (simp (disch := omega) only [push_cast, simprocAttr, natNe, List.mem_cons, List.not_mem_nil, TyD.isAgg, Nat.add_assoc, List.map_nil, List.length_nil, Bool.and_self, Bool.and_true, Bool.true_and, Bool.false_and, Bool.and_false, Bool.not_true, Bool.not_false, Bool.false_eq_true, beq_self_eq_true, hf3, hf5, St.back, rowAt_aftJ, idsL, idsA, List.cons_append, List.nil_append, List.append_nil, hf6, hf7, hT] <;> rfl)); (with_reducible first | exact hs); try first | rfl | (simp (disch := omega) only [push_cast, simprocAttr, natNe, List.mem_cons, List.not_mem_nil, TyD.isAgg, Nat.add_assoc, List.map_nil, List.length_nil, Bool.and_self, Bool.and_true, Bool.true_and, Bool.false_and, Bool.and_false, Bool.not_true, Bool.not_false, Bool.false_eq_true, beq_self_eq_true, hf3, hf5, St.back, rowAt_aftJ, idsL, idsA, List.cons_append, List.nil_append, List.append_nil, hf6, hf7, hT] <;> rfl))
      | ((first | apply W.ret1 | apply W.end1); (iterate 2 (try (simp (disch := omega) only [push_cast, simprocAttr, natNe, List.mem_cons, List.not_mem_nil, TyD.isAgg, Nat.add_assoc, List.map_nil, List.length_nil, Bool.and_self, Bool.and_true, Bool.true_and, Bool.false_and, Bool.and_false, Bool.not_true, Bool.not_false, Bool.false_eq_true, beq_self_eq_true, hf3, hf5, St.back, rowAt_aftJ, idsL, idsA, List.cons_append, List.nil_append, List.append_nil, hf6, hf7, hT] <;> rfl))))

    all_goals (show _ = _; rfl)
  have hF := eq_false h60
  by_cases h80 : 80 < (ms.length : Int)
  · have gT := eq_true h80
    refine OKat.of_body (rs := [6]) Tryz.func4 rfl (by decide +kernel) rfl (by simp [Tryz.ntmps4]) ?_
    simp only [Tryz.ntmps4]
    repeat' first
      | apply AW.seq | apply AW.region | apply AW.ret | apply AW.block | apply AW.skip | apply AW.exit | apply AW.scope | apply AW.label | apply AWL.nil
      | ((first | (apply W.step cx_ok; decide) | (apply W.gS; rfl; decide) | apply AW.cond); (simp (disch := omega) only [push_cast, simprocAttr, natNe, List.mem_cons, List.not_mem_nil, TyD.isAgg, Nat.add_assoc, List.map_nil, List.length_nil, Bool.and_self, Bool.and_true, Bool.true_and, Bool.false_and, Bool.and_false, Bool.not_true, Bool.not_false, Bool.false_eq_true, beq_self_eq_true, hf3, hf5, St.back, rowAt_aftJ, idsL, idsA, List.cons_append, List.nil_append, List.append_nil, hf6, hf7, hF, gT] <;> rfl); all_goals try ((with_reducible intro hI); try first | (cases hI; done) | (simp only [INTS, not_true_eq_false] at hI; try first | (exfalso; omega) | (have hT : True := hI; clear hT hI))))
      | ((apply W.callv cx_ok; decide); (iterate 2 (simp (disch := omega) only [push_cast, simprocAttr, natNe, List.mem_cons, List.not_mem_nil, TyD.isAgg, Nat.add_assoc, List.map_nil, List.length_nil, Bool.and_self, Bool.and_true, Bool.true_and, Bool.false_and, Bool.and_false, Bool.not_true, Bool.not_false, Bool.false_eq_true, beq_self_eq_true, hf3, hf5, St.back, rowAt_aftJ, idsL, idsA, List.cons_append, List.nil_append, List.append_nil, hf6, hf7, hF, gT] <;> rfl)); (with_reducible first | exact hs); try first | rfl | (simp (disch := omega) only [push_cast, simprocAttr, natNe, List.mem_cons, List.not_mem_nil, TyD.isAgg, Nat.add_assoc, List.map_nil, List.length_nil, Bool.and_self, Bool.and_true, Bool.true_and, Bool.false_and, Bool.and_false, Bool.not_true, Bool.not_false, Bool.false_eq_true, beq_self_eq_true, hf3, hf5, St.back, rowAt_aftJ, idsL, idsA, List.cons_append, List.nil_append, List.append_nil, hf6, hf7, hF, gT] <;> rfl))
      | ((first | apply W.ret1 | apply W.end1); (iterate 2 (try (simp (disch := omega) only [push_cast, simprocAttr, natNe, List.mem_cons, List.not_mem_nil, TyD.isAgg, Nat.add_assoc, List.map_nil, List.length_nil, Bool.and_self, Bool.and_true, Bool.true_and, Bool.false_and, Bool.and_false, Bool.not_true, Bool.not_false, Bool.false_eq_true, beq_self_eq_true, hf3, hf5, St.back, rowAt_aftJ, idsL, idsA, List.cons_append, List.nil_append, List.append_nil, hf6, hf7, hF, gT] <;> rfl))))

    all_goals (show _ = _; rfl)
  have gF := eq_false h80
  obtain ⟨RES, E, c1, c2, n1⟩ := unread_both l ms i (by omega)
  have c3 := SameInts_same RES (by omega)
  refine OKat.of_body (rs := [6]) Tryz.func4 rfl (by decide +kernel) rfl (by simp [Tryz.ntmps4]) ?_
  simp only [Tryz.ntmps4]
  repeat' first
    | apply AW.seq | apply AW.region | apply AW.ret | apply AW.block | apply AW.skip | apply AW.exit | apply AW.scope | apply AW.label | apply AWL.nil
    | ((first | (apply W.step cx_ok; decide) | (apply W.gS; rfl; decide) | apply AW.cond); (simp (disch := omega) only [push_cast, simprocAttr, natNe, List.mem_cons, List.not_mem_nil, TyD.isAgg, Nat.add_assoc, List.map_nil, List.length_nil, Bool.and_self, Bool.and_true, Bool.true_and, Bool.false_and, Bool.and_false, Bool.not_true, Bool.not_false, Bool.false_eq_true, beq_self_eq_true, hf3, hf5, St.back, rowAt_aftJ, idsL, idsA, List.cons_append, List.nil_append, List.append_nil, hf6, hf7, hF, gF] <;> rfl); all_goals try ((with_reducible intro hI); try first | (cases hI; done) | (simp only [INTS, not_true_eq_false] at hI; try first | (exfalso; omega) | (have hT : True := hI; clear hT hI))))
    | ((apply W.callv cx_ok; decide); (iterate 2 (simp (disch := omega) only [push_cast, simprocAttr, natNe, List.mem_cons, List.not_mem_nil, TyD.isAgg, Nat.add_assoc, List.map_nil, List.length_nil, Bool.and_self, Bool.and_true, Bool.true_and, Bool.false_and, Bool.and_false, Bool.not_true, Bool.not_false, Bool.false_eq_true, beq_self_eq_true, hf3, hf5, St.back, rowAt_aftJ, idsL, idsA, List.cons_append, List.nil_append, List.append_nil, hf6, hf7, hF, gF] <;> rfl)); (with_reducible first | exact hs | exact c1 | exact c2 | exact c3); try first | rfl | (simp (disch := omega) only [push_cast, simprocAttr, natNe, List.mem_cons, List.not_mem_nil, TyD.isAgg, Nat.add_assoc, List.map_nil, List.length_nil, Bool.and_self, Bool.and_true, Bool.true_and, Bool.false_and, Bool.and_false, Bool.not_true, Bool.not_false, Bool.false_eq_true, beq_self_eq_true, hf3, hf5, St.back, rowAt_aftJ, idsL, idsA, List.cons_append, List.nil_append, List.append_nil, hf6, hf7, hF, gF] <;> rfl))
    | ((first | apply W.ret1 | apply W.end1); (iterate 2 (try (simp (disch := omega) only [push_cast, simprocAttr, natNe, List.mem_cons, List.not_mem_nil, TyD.isAgg, Nat.add_assoc, List.map_nil, List.length_nil, Bool.and_self, Bool.and_true, Bool.true_and, Bool.false_and, Bool.and_false, Bool.not_true, Bool.not_false, Bool.false_eq_true, beq_self_eq_true, hf3, hf5, St.back, rowAt_aftJ, idsL, idsA, List.cons_append, List.nil_append, List.append_nil, hf6, hf7, hF, gF] <;> rfl))))

  all_goals (show _ = _; rfl)
end Go.Proofs.Dz
