/-
  Contracts of functions, proved by going through their code. No conditions.
-/
import Derived.Test.YtkdiplkmcilkmaaDoorDbb
import Derived.Test.YtkdiplkmcilkmaaDoorDtG
import Derived.Test.YtkdiplkmcilkmaaDoorDtW
set_option linter.unusedVariables false
set_option linter.unusedSimpArgs false
set_option maxHeartbeats 8000000
set_option maxRecDepth 10000
namespace Go.Proofs.Ds
open Go Go.Pg Go.Proofs
theorem law16_ok (hs : OKv cx 19 [] (ab true)) (h0 : SortKC0 Tryd.prog 130) (l : List Key) (a b : Mark) (i : Ink) (n0 un : Int) : OKv cx 16 [lKey l, .agg (eMark a), .agg (eMark b), .agg (eInk i), ai n0, ai un] (ab true) := by
  have hf1 : ∀ m e, flatA (.tup [.agg (eMark m), .v e]) = true := fun _ _ => rfl
  have hf2 : ∀ x, flatA (.v x) = true := fun _ => rfl
  have hf3 : ∀ l x, flatA (.tup [.lst l, .v x]) = false := fun _ _ => rfl
  have hf4 : ∀ m, flatA (.agg (eMark m)) = true := fun _ => rfl
  have hf5 : ∀ x y, flatA (.tup [.v x, .v y]) = true := fun _ _ => rfl
  by_cases hl4 : 40 < (l.length : Int)
  · have yT := eq_true hl4
    refine OKat.of_body (rs := [12]) Tryd.func16 rfl (by decide +kernel) rfl (by simp [Tryd.ntmps16]) ?_
    simp only [Tryd.ntmps16]
    repeat' first
      | apply AW.seq | apply AW.region | apply AW.ret | apply AW.block | apply AW.skip | apply AW.exit | apply AW.scope | apply AW.label | apply AWL.nil
      | ((first | (apply W.step cx_ok; decide) | apply W.store cx_ok | (apply W.gS; rfl; decide) | apply AW.cond); (simp (disch := omega) only [push_cast, simprocAttr, natNe, List.mem_cons, List.not_mem_nil, TyD.isAgg, Nat.add_assoc, List.map_nil, List.length_nil, beq_self_eq_true, St.back, rowAt_aftJ, idsL, idsA, idsLL, List.cons_append, List.nil_append, List.append_nil, Option.map_some, Bool.and_self, Bool.and_true, Bool.true_and, Bool.false_and, Bool.and_false, Bool.not_true, Bool.not_false, Bool.false_eq_true, hf1, hf2, hf3, hf4, hf5, yT] <;> rfl); all_goals try ((with_reducible intro hI); try first | (cases hI; done) | (simp only [INTS, not_true_eq_false] at hI; try first | (exfalso; omega) | (have hT : True := hI; clear hT hI))))
      | ((apply W.callv cx_ok; decide); (iterate 2 (simp (disch := omega) only [push_cast, simprocAttr, natNe, List.mem_cons, List.not_mem_nil, TyD.isAgg, Nat.add_assoc, List.map_nil, List.length_nil, beq_self_eq_true, St.back, rowAt_aftJ, idsL, idsA, idsLL, List.cons_append, List.nil_append, List.append_nil, Option.map_some, Bool.and_self, Bool.and_true, Bool.true_and, Bool.false_and, Bool.and_false, Bool.not_true, Bool.not_false, Bool.false_eq_true, hf1, hf2, hf3, hf4, hf5, yT] <;> rfl)); (with_reducible first | exact hs); try first | rfl | (simp (disch := omega) only [push_cast, simprocAttr, natNe, List.mem_cons, List.not_mem_nil, TyD.isAgg, Nat.add_assoc, List.map_nil, List.length_nil, beq_self_eq_true, St.back, rowAt_aftJ, idsL, idsA, idsLL, List.cons_append, List.nil_append, List.append_nil, Option.map_some, Bool.and_self, Bool.and_true, Bool.true_and, Bool.false_and, Bool.and_false, Bool.not_true, Bool.not_false, Bool.false_eq_true, hf1, hf2, hf3, hf4, hf5, yT] <;> rfl))
      | ((first | apply W.ret1 | apply W.end1); (iterate 2 (try (simp (disch := omega) only [push_cast, simprocAttr, natNe, List.mem_cons, List.not_mem_nil, TyD.isAgg, Nat.add_assoc, List.map_nil, List.length_nil, beq_self_eq_true, St.back, rowAt_aftJ, idsL, idsA, idsLL, List.cons_append, List.nil_append, List.append_nil, Option.map_some, Bool.and_self, Bool.and_true, Bool.true_and, Bool.false_and, Bool.and_false, Bool.not_true, Bool.not_false, Bool.false_eq_true, hf1, hf2, hf3, hf4, hf5, yT] <;> rfl))))

    all_goals (show _ = _; rfl)
  have yF := eq_false hl4
  have k1 : (∃ M E, E ≠ 0 ∧ OKv cx 66 [.agg (eMark a), .agg (eMark b)] (.tup [.agg (eMark M), ai E])) ∨ ∃ M, OKv cx 66 [.agg (eMark a), .agg (eMark b)] (.tup [.agg (eMark M), ai 0]) ∧ OKv cx 84 [lKey l, .agg (eMark M), .agg (eMark a), .agg (eInk i)] (ab true) ∧ OKv cx 84 [lKey l, .agg (eMark M), .agg (eMark b), .agg (eInk i)] (ab true) := by
    by_cases h : markV a = true ∧ markV b = true
    · have c := Sharpen_good h0 a b h
      obtain ⟨M, hM⟩ : ∃ z, (sharpenF a b).1 = z := ⟨_, rfl⟩
      obtain ⟨E, hE⟩ : ∃ z, (sharpenF a b).2 = z := ⟨_, rfl⟩
      rw [hM, hE] at c
      by_cases e : E = 0
      · rw [e] at c hE
        obtain ⟨f1, f2, f3⟩ := sharpen_finer h.1 h.2 (x := M) (by rw [← hM, ← hE])
        exact .inr ⟨M, c, among_ok h0 l M a i (by omega) f1 h.1 f2, among_ok h0 l M b i (by omega) f1 h.2 f3⟩
      · exact .inl ⟨M, E, e, c⟩
    · exact .inl ⟨_, 1, by decide, Sharpen_bad a b h⟩
  have k2 : (∃ M E, E ≠ 0 ∧ OKv cx 64 [.agg (eMark a), ai n0, ai un] (.tup [.agg (eMark M), ai E])) ∨ ∃ M, OKv cx 64 [.agg (eMark a), ai n0, ai un] (.tup [.agg (eMark M), ai 0]) ∧ OKv cx 84 [lKey l, .agg (eMark a), .agg (eMark M), .agg (eInk i)] (ab true) := by
    by_cases h : (markV a = true ∧ 0 ≤ n0 ∧ n0 ≤ 43200 ∧ 0 ≤ un ∧ un ≤ 4095)
    · obtain ⟨f1, f2⟩ := blur_finer h.1 h.2.1 h.2.2.2
      exact .inr ⟨_, Blur_good a n0 un h, among_ok h0 l a _ i (by omega) h.1 f1 f2⟩
    · exact .inl ⟨_, 1, by decide, Blur_bad a n0 un h⟩
  rcases k1 with ⟨M1, E1, e1, c1⟩ | ⟨M1, c1, c3, c4⟩ <;> rcases k2 with ⟨M2, E2, e2, c2⟩ | ⟨M2, c2, c5⟩
  · have eF := eq_false e1
    have eB : (E1 == 0) = false := by simpa using e1
    have gF := eq_false e2
    have gB : (E2 == 0) = false := by simpa using e2
    refine OKat.of_body (rs := [12]) Tryd.func16 rfl (by decide +kernel) rfl (by simp [Tryd.ntmps16]) ?_
    simp only [Tryd.ntmps16]
    repeat' first
      | apply AW.seq | apply AW.region | apply AW.ret | apply AW.block | apply AW.skip | apply AW.exit | apply AW.scope | apply AW.label | apply AWL.nil
      | ((first | (apply W.step cx_ok; decide) | apply W.store cx_ok | (apply W.gS; rfl; decide) | apply AW.cond); (simp (disch := omega) only [push_cast, simprocAttr, natNe, List.mem_cons, List.not_mem_nil, TyD.isAgg, Nat.add_assoc, List.map_nil, List.length_nil, beq_self_eq_true, St.back, rowAt_aftJ, idsL, idsA, idsLL, List.cons_append, List.nil_append, List.append_nil, Option.map_some, Bool.and_self, Bool.and_true, Bool.true_and, Bool.false_and, Bool.and_false, Bool.not_true, Bool.not_false, Bool.false_eq_true, hf1, hf2, hf3, hf4, hf5, yF, eF, eB, gF, gB] <;> rfl); all_goals try ((with_reducible intro hI); try first | (cases hI; done) | (simp only [INTS, not_true_eq_false] at hI; try first | (exfalso; omega) | (have hT : True := hI; clear hT hI))))
      | ((apply W.callv cx_ok; decide); (iterate 2 (simp (disch := omega) only [push_cast, simprocAttr, natNe, List.mem_cons, List.not_mem_nil, TyD.isAgg, Nat.add_assoc, List.map_nil, List.length_nil, beq_self_eq_true, St.back, rowAt_aftJ, idsL, idsA, idsLL, List.cons_append, List.nil_append, List.append_nil, Option.map_some, Bool.and_self, Bool.and_true, Bool.true_and, Bool.false_and, Bool.and_false, Bool.not_true, Bool.not_false, Bool.false_eq_true, hf1, hf2, hf3, hf4, hf5, yF, eF, eB, gF, gB] <;> rfl)); (with_reducible first | exact hs | exact c1 | exact c2); try first | rfl | (simp (disch := omega) only [push_cast, simprocAttr, natNe, List.mem_cons, List.not_mem_nil, TyD.isAgg, Nat.add_assoc, List.map_nil, List.length_nil, beq_self_eq_true, St.back, rowAt_aftJ, idsL, idsA, idsLL, List.cons_append, List.nil_append, List.append_nil, Option.map_some, Bool.and_self, Bool.and_true, Bool.true_and, Bool.false_and, Bool.and_false, Bool.not_true, Bool.not_false, Bool.false_eq_true, hf1, hf2, hf3, hf4, hf5, yF, eF, eB, gF, gB] <;> rfl))
      | ((first | apply W.ret1 | apply W.end1); (iterate 2 (try (simp (disch := omega) only [push_cast, simprocAttr, natNe, List.mem_cons, List.not_mem_nil, TyD.isAgg, Nat.add_assoc, List.map_nil, List.length_nil, beq_self_eq_true, St.back, rowAt_aftJ, idsL, idsA, idsLL, List.cons_append, List.nil_append, List.append_nil, Option.map_some, Bool.and_self, Bool.and_true, Bool.true_and, Bool.false_and, Bool.and_false, Bool.not_true, Bool.not_false, Bool.false_eq_true, hf1, hf2, hf3, hf4, hf5, yF, eF, eB, gF, gB] <;> rfl))))

    all_goals (show _ = _; rfl)
  · have eF := eq_false e1
    have eB : (E1 == 0) = false := by simpa using e1
    refine OKat.of_body (rs := [12]) Tryd.func16 rfl (by decide +kernel) rfl (by simp [Tryd.ntmps16]) ?_
    simp only [Tryd.ntmps16]
    repeat' first
      | apply AW.seq | apply AW.region | apply AW.ret | apply AW.block | apply AW.skip | apply AW.exit | apply AW.scope | apply AW.label | apply AWL.nil
      | ((first | (apply W.step cx_ok; decide) | apply W.store cx_ok | (apply W.gS; rfl; decide) | apply AW.cond); (simp (disch := omega) only [push_cast, simprocAttr, natNe, List.mem_cons, List.not_mem_nil, TyD.isAgg, Nat.add_assoc, List.map_nil, List.length_nil, beq_self_eq_true, St.back, rowAt_aftJ, idsL, idsA, idsLL, List.cons_append, List.nil_append, List.append_nil, Option.map_some, Bool.and_self, Bool.and_true, Bool.true_and, Bool.false_and, Bool.and_false, Bool.not_true, Bool.not_false, Bool.false_eq_true, hf1, hf2, hf3, hf4, hf5, yF, eF, eB] <;> rfl); all_goals try ((with_reducible intro hI); try first | (cases hI; done) | (simp only [INTS, not_true_eq_false] at hI; try first | (exfalso; omega) | (have hT : True := hI; clear hT hI))))
      | ((apply W.callv cx_ok; decide); (iterate 2 (simp (disch := omega) only [push_cast, simprocAttr, natNe, List.mem_cons, List.not_mem_nil, TyD.isAgg, Nat.add_assoc, List.map_nil, List.length_nil, beq_self_eq_true, St.back, rowAt_aftJ, idsL, idsA, idsLL, List.cons_append, List.nil_append, List.append_nil, Option.map_some, Bool.and_self, Bool.and_true, Bool.true_and, Bool.false_and, Bool.and_false, Bool.not_true, Bool.not_false, Bool.false_eq_true, hf1, hf2, hf3, hf4, hf5, yF, eF, eB] <;> rfl)); (with_reducible first | exact hs | exact c1 | exact c2 | exact c5); try first | rfl | (simp (disch := omega) only [push_cast, simprocAttr, natNe, List.mem_cons, List.not_mem_nil, TyD.isAgg, Nat.add_assoc, List.map_nil, List.length_nil, beq_self_eq_true, St.back, rowAt_aftJ, idsL, idsA, idsLL, List.cons_append, List.nil_append, List.append_nil, Option.map_some, Bool.and_self, Bool.and_true, Bool.true_and, Bool.false_and, Bool.and_false, Bool.not_true, Bool.not_false, Bool.false_eq_true, hf1, hf2, hf3, hf4, hf5, yF, eF, eB] <;> rfl))
      | ((first | apply W.ret1 | apply W.end1); (iterate 2 (try (simp (disch := omega) only [push_cast, simprocAttr, natNe, List.mem_cons, List.not_mem_nil, TyD.isAgg, Nat.add_assoc, List.map_nil, List.length_nil, beq_self_eq_true, St.back, rowAt_aftJ, idsL, idsA, idsLL, List.cons_append, List.nil_append, List.append_nil, Option.map_some, Bool.and_self, Bool.and_true, Bool.true_and, Bool.false_and, Bool.and_false, Bool.not_true, Bool.not_false, Bool.false_eq_true, hf1, hf2, hf3, hf4, hf5, yF, eF, eB] <;> rfl))))

    all_goals (show _ = _; rfl)
  · have gF := eq_false e2
    have gB : (E2 == 0) = false := by simpa using e2
    refine OKat.of_body (rs := [12]) Tryd.func16 rfl (by decide +kernel) rfl (by simp [Tryd.ntmps16]) ?_
    simp only [Tryd.ntmps16]
    repeat' first
      | apply AW.seq | apply AW.region | apply AW.ret | apply AW.block | apply AW.skip | apply AW.exit | apply AW.scope | apply AW.label | apply AWL.nil
      | ((first | (apply W.step cx_ok; decide) | apply W.store cx_ok | (apply W.gS; rfl; decide) | apply AW.cond); (simp (disch := omega) only [push_cast, simprocAttr, natNe, List.mem_cons, List.not_mem_nil, TyD.isAgg, Nat.add_assoc, List.map_nil, List.length_nil, beq_self_eq_true, St.back, rowAt_aftJ, idsL, idsA, idsLL, List.cons_append, List.nil_append, List.append_nil, Option.map_some, Bool.and_self, Bool.and_true, Bool.true_and, Bool.false_and, Bool.and_false, Bool.not_true, Bool.not_false, Bool.false_eq_true, hf1, hf2, hf3, hf4, hf5, yF, gF, gB] <;> rfl); all_goals try ((with_reducible intro hI); try first | (cases hI; done) | (simp only [INTS, not_true_eq_false] at hI; try first | (exfalso; omega) | (have hT : True := hI; clear hT hI))))
      | ((apply W.callv cx_ok; decide); (iterate 2 (simp (disch := omega) only [push_cast, simprocAttr, natNe, List.mem_cons, List.not_mem_nil, TyD.isAgg, Nat.add_assoc, List.map_nil, List.length_nil, beq_self_eq_true, St.back, rowAt_aftJ, idsL, idsA, idsLL, List.cons_append, List.nil_append, List.append_nil, Option.map_some, Bool.and_self, Bool.and_true, Bool.true_and, Bool.false_and, Bool.and_false, Bool.not_true, Bool.not_false, Bool.false_eq_true, hf1, hf2, hf3, hf4, hf5, yF, gF, gB] <;> rfl)); (with_reducible first | exact hs | exact c1 | exact c2 | exact c3 | exact c4); try first | rfl | (simp (disch := omega) only [push_cast, simprocAttr, natNe, List.mem_cons, List.not_mem_nil, TyD.isAgg, Nat.add_assoc, List.map_nil, List.length_nil, beq_self_eq_true, St.back, rowAt_aftJ, idsL, idsA, idsLL, List.cons_append, List.nil_append, List.append_nil, Option.map_some, Bool.and_self, Bool.and_true, Bool.true_and, Bool.false_and, Bool.and_false, Bool.not_true, Bool.not_false, Bool.false_eq_true, hf1, hf2, hf3, hf4, hf5, yF, gF, gB] <;> rfl))
      | ((first | apply W.ret1 | apply W.end1); (iterate 2 (try (simp (disch := omega) only [push_cast, simprocAttr, natNe, List.mem_cons, List.not_mem_nil, TyD.isAgg, Nat.add_assoc, List.map_nil, List.length_nil, beq_self_eq_true, St.back, rowAt_aftJ, idsL, idsA, idsLL, List.cons_append, List.nil_append, List.append_nil, Option.map_some, Bool.and_self, Bool.and_true, Bool.true_and, Bool.false_and, Bool.and_false, Bool.not_true, Bool.not_false, Bool.false_eq_true, hf1, hf2, hf3, hf4, hf5, yF, gF, gB] <;> rfl))))

    all_goals (show _ = _; rfl)
  ·
    refine OKat.of_body (rs := [12]) Tryd.func16 rfl (by decide +kernel) rfl (by simp [Tryd.ntmps16]) ?_
    simp only [Tryd.ntmps16]
    repeat' first
      | apply AW.seq | apply AW.region | apply AW.ret | apply AW.block | apply AW.skip | apply AW.exit | apply AW.scope | apply AW.label | apply AWL.nil
      | ((first | (apply W.step cx_ok; decide) | apply W.store cx_ok | (apply W.gS; rfl; decide) | apply AW.cond); (simp (disch := omega) only [push_cast, simprocAttr, natNe, List.mem_cons, List.not_mem_nil, TyD.isAgg, Nat.add_assoc, List.map_nil, List.length_nil, beq_self_eq_true, St.back, rowAt_aftJ, idsL, idsA, idsLL, List.cons_append, List.nil_append, List.append_nil, Option.map_some, Bool.and_self, Bool.and_true, Bool.true_and, Bool.false_and, Bool.and_false, Bool.not_true, Bool.not_false, Bool.false_eq_true, hf1, hf2, hf3, hf4, hf5, yF] <;> rfl); all_goals try ((with_reducible intro hI); try first | (cases hI; done) | (simp only [INTS, not_true_eq_false] at hI; try first | (exfalso; omega) | (have hT : True := hI; clear hT hI))))
      | ((apply W.callv cx_ok; decide); (iterate 2 (simp (disch := omega) only [push_cast, simprocAttr, natNe, List.mem_cons, List.not_mem_nil, TyD.isAgg, Nat.add_assoc, List.map_nil, List.length_nil, beq_self_eq_true, St.back, rowAt_aftJ, idsL, idsA, idsLL, List.cons_append, List.nil_append, List.append_nil, Option.map_some, Bool.and_self, Bool.and_true, Bool.true_and, Bool.false_and, Bool.and_false, Bool.not_true, Bool.not_false, Bool.false_eq_true, hf1, hf2, hf3, hf4, hf5, yF] <;> rfl)); (with_reducible first | exact hs | exact c1 | exact c2 | exact c3 | exact c4 | exact c5); try first | rfl | (simp (disch := omega) only [push_cast, simprocAttr, natNe, List.mem_cons, List.not_mem_nil, TyD.isAgg, Nat.add_assoc, List.map_nil, List.length_nil, beq_self_eq_true, St.back, rowAt_aftJ, idsL, idsA, idsLL, List.cons_append, List.nil_append, List.append_nil, Option.map_some, Bool.and_self, Bool.and_true, Bool.true_and, Bool.false_and, Bool.and_false, Bool.not_true, Bool.not_false, Bool.false_eq_true, hf1, hf2, hf3, hf4, hf5, yF] <;> rfl))
      | ((first | apply W.ret1 | apply W.end1); (iterate 2 (try (simp (disch := omega) only [push_cast, simprocAttr, natNe, List.mem_cons, List.not_mem_nil, TyD.isAgg, Nat.add_assoc, List.map_nil, List.length_nil, beq_self_eq_true, St.back, rowAt_aftJ, idsL, idsA, idsLL, List.cons_append, List.nil_append, List.append_nil, Option.map_some, Bool.and_self, Bool.and_true, Bool.true_and, Bool.false_and, Bool.and_false, Bool.not_true, Bool.not_false, Bool.false_eq_true, hf1, hf2, hf3, hf4, hf5, yF] <;> rfl))))

    all_goals (show _ = _; rfl)
end Go.Proofs.Ds
