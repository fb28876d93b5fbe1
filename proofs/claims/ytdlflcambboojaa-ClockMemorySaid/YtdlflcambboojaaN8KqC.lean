/-
  Contracts of functions, proved by going through their code. No conditions.
-/
import Derived.Test.YtdlflcambboojaaVaa
import Derived.Test.YtdlflcambboojaaVbd
import Derived.Test.YtdlflcambboojaaN8KqB
set_option linter.unusedVariables false
set_option linter.unusedSimpArgs false
set_option maxHeartbeats 8000000
set_option maxRecDepth 10000
namespace Go.Proofs.Ks
open Go Go.Pg Go.Proofs
theorem law8_bad (r : Rec) (ids : List Int) (E : Int) (hE : E ≠ 0) (hl : ids.length ≤ 30) (hs : r.s.stops.length ≤ 12) (csm : OKv cx 19 [.agg (eRec r)] (ab true)) (c39 : OKv cx 39 [.agg (eRec r), .lst []] (.agg (eRec r))) (c40 : OKv cx 40 [.agg (eRec r)] (.tup [.lst [], ai E])) (c38 : OKv cx 38 [.agg (eRec r), lInt ids] (.tup [.agg (eRec R00), ai E])) : OKv cx 8 [.agg (eRec r), lInt ids] (ab true) := by
  have c20 := sanity_ok
  have hEF : (E = 0) = False := eq_false hE
  have hlI : ¬ (30 : Int) < (ids.length : Int) := by omega
  have hfl : flatA (.tup [.agg (eRec R00), ai E]) = false := rfl
  refine OKat.of_body (rs := [4]) Try.func8 rfl (by decide +kernel) rfl (by simp [Try.ntmps8]) ?_
  simp only [Try.ntmps8]
  repeat' first
    | apply jA | apply jB | apply jC | apply jD | apply jE | apply jF | apply jG | apply jH | apply jI
    | ((first | (apply jK cx_ok; decide) | apply jM cx_ok | (apply jN; rfl; decide) | apply jR); (simp (maxSteps := 1000000) (disch := (first | omega | (simp only [vC]; omega))) only [push_cast, simprocAttr, takeM, dropM, zK, zA, zB, zN, zQ, zR, zO, zP, zT, zS, zU, leT, zH, hlI, natNe, zI, zG, zJ, isEmpty_map, zV, zM, Bool.true_and, beq_self_eq_true, Bool.not_true, zW, zC, Int.natCast_zero, yA] <;> rfl); all_goals try ((with_reducible intro hI); try first | (cases hI; done) | (simp only [INTS, zL] at hI; try first | (exfalso; omega) | (have hT : True := hI; clear hT hI))))
    | ((apply jP; rfl; decide); (simp (maxSteps := 1000000) (disch := (first | omega | (simp only [vC]; omega))) only [push_cast, simprocAttr, takeM, dropM, zK, zA, zB, zN, zQ, zR, zO, zP, zT, zS, zU, leT, zH, hlI, natNe, zI, zG, zJ, isEmpty_map, zV, zM, Bool.true_and, beq_self_eq_true, Bool.not_true, zW, zC, Int.natCast_zero, yA] <;> rfl))
    | (apply jT cx_ok; decide; rfl; rfl; rfl; decide; (iterate 3 (simp (maxSteps := 1000000) (disch := (first | omega | (simp only [vC]; omega))) only [push_cast, simprocAttr, takeM, dropM, zK, zA, zB, zN, zQ, zR, zO, zP, zT, zS, zU, leT, zH, hlI, natNe, zI, zG, zJ, isEmpty_map, zV, zM, Bool.true_and, beq_self_eq_true, Bool.not_true, zW, zC, Int.natCast_zero, yA] <;> rfl)); (first | (focus (simp; done)) | (intro c hc; obtain ⟨x, _, rfl⟩ := List.mem_map.1 hc; rfl)); ((first | rfl | simp (maxSteps := 1000000) (disch := omega) only [push_cast])); ((try dsimp only); (try simp only [vC]); omega); ((try dsimp only); (try simp only [vC]); omega))
    | ((apply jV cx_ok; decide); (iterate 2 (simp (maxSteps := 1000000) (disch := (first | omega | (simp only [vC]; omega))) only [push_cast, simprocAttr, takeM, dropM, zK, zA, zB, zN, zQ, zR, zO, zP, zT, zS, zU, leT, zH, hlI, natNe, zI, zG, zJ, isEmpty_map, zV, zM, Bool.true_and, beq_self_eq_true, Bool.not_true, zW, zC, Int.natCast_zero, yA] <;> rfl)); (with_reducible first | exact csm | exact c20 | exact c39 | exact c40 | exact c38); try first | rfl | (simp (maxSteps := 1000000) (disch := (first | omega | (simp only [vC]; omega))) only [push_cast, simprocAttr, takeM, dropM, zK, zA, zB, zN, zQ, zR, zO, zP, zT, zS, zU, leT, zH, hlI, natNe, zI, zG, zJ, isEmpty_map, zV, zM, Bool.true_and, beq_self_eq_true, Bool.not_true, zW, zC, Int.natCast_zero, yA] <;> rfl))
    | ((first | apply jf | apply jg); (iterate 2 (try (simp (maxSteps := 1000000) (disch := (first | omega | (simp only [vC]; omega))) only [push_cast, simprocAttr, takeM, dropM, zK, zA, zB, zN, zQ, zR, zO, zP, zT, zS, zU, leT, zH, hlI, natNe, zI, zG, zJ, isEmpty_map, zV, zM, Bool.true_and, beq_self_eq_true, Bool.not_true, zW, zC, Int.natCast_zero, yA] <;> rfl))))

  refine AW.loop (fun n s => ∃ (k : Nat), n = 0 ∧ (k = 0) ∧ 3 ≤ s.nx ∧ s.tm 2 = .ptr 0 0 0 1 ∧ s.tm 7 = ai E ∧ s.tm 1 = lInt ids ∧ s.tm 6 = .lst [] ∧ s.tm 8 = ai 0 ∧ Pg.rowAt s.H 0 = some { k := 14, es := [eRec r], ty := 30 }) (0) ⟨0, rfl, rfl, ?_, ?_, ?_, ?_, ?_, ?_, ?_⟩ ?_
  iterate 7 (first | (simp (disch := omega) only [push_cast, simprocAttr, hlI, natNe, zI, zG, zJ, isEmpty_map, zV, zM, Bool.true_and, zO, beq_self_eq_true, zP, Bool.not_true, zW, zC, Int.natCast_zero, yA] <;> first | rfl | omega) | omega)
  rintro n0 s0 ⟨k0, hn0, hp00, hnl0, hS0⟩
  repeat' first
    | apply jA | apply jB | apply jC | apply jD | apply jE | apply jF | apply jG | apply jH | apply jI
    | ((first | (apply jK cx_ok; decide) | apply jM cx_ok | (apply jN; rfl; decide) | apply jR); (simp (maxSteps := 1000000) (disch := (first | omega | (simp only [vC]; omega))) only [push_cast, simprocAttr, takeM, dropM, zK, zA, zB, zN, zQ, zR, zO, zP, zT, zS, zU, leT, zH, hS0, hEF, Int.lt_irrefl, natNe, zI, zG, zJ, isEmpty_map, zV, zM, Bool.true_and, beq_self_eq_true, Bool.not_true, zW, zC, Int.natCast_zero, yA, R00] <;> rfl); all_goals try ((with_reducible intro hI); try first | (cases hI; done) | (simp only [INTS, zL] at hI; try first | (exfalso; omega) | (have hT : True := hI; clear hT hI))))
    | ((apply jP; rfl; decide); (simp (maxSteps := 1000000) (disch := (first | omega | (simp only [vC]; omega))) only [push_cast, simprocAttr, takeM, dropM, zK, zA, zB, zN, zQ, zR, zO, zP, zT, zS, zU, leT, zH, hS0, hEF, Int.lt_irrefl, natNe, zI, zG, zJ, isEmpty_map, zV, zM, Bool.true_and, beq_self_eq_true, Bool.not_true, zW, zC, Int.natCast_zero, yA, R00] <;> rfl))
    | (apply jT cx_ok; decide; rfl; rfl; rfl; decide; (iterate 3 (simp (maxSteps := 1000000) (disch := (first | omega | (simp only [vC]; omega))) only [push_cast, simprocAttr, takeM, dropM, zK, zA, zB, zN, zQ, zR, zO, zP, zT, zS, zU, leT, zH, hS0, hEF, Int.lt_irrefl, natNe, zI, zG, zJ, isEmpty_map, zV, zM, Bool.true_and, beq_self_eq_true, Bool.not_true, zW, zC, Int.natCast_zero, yA, R00] <;> rfl)); (first | (focus (simp; done)) | (intro c hc; obtain ⟨x, _, rfl⟩ := List.mem_map.1 hc; rfl)); ((first | rfl | simp (maxSteps := 1000000) (disch := omega) only [push_cast])); ((try dsimp only); (try simp only [vC]); omega); ((try dsimp only); (try simp only [vC]); omega))
    | ((apply jV cx_ok; decide); (iterate 2 (simp (maxSteps := 1000000) (disch := (first | omega | (simp only [vC]; omega))) only [push_cast, simprocAttr, takeM, dropM, zK, zA, zB, zN, zQ, zR, zO, zP, zT, zS, zU, leT, zH, hS0, hEF, Int.lt_irrefl, natNe, zI, zG, zJ, isEmpty_map, zV, zM, Bool.true_and, beq_self_eq_true, Bool.not_true, zW, zC, Int.natCast_zero, yA, R00] <;> rfl)); (with_reducible first | exact csm | exact c20 | exact c39 | exact c40 | exact c38); try first | rfl | (simp (maxSteps := 1000000) (disch := (first | omega | (simp only [vC]; omega))) only [push_cast, simprocAttr, takeM, dropM, zK, zA, zB, zN, zQ, zR, zO, zP, zT, zS, zU, leT, zH, hS0, hEF, Int.lt_irrefl, natNe, zI, zG, zJ, isEmpty_map, zV, zM, Bool.true_and, beq_self_eq_true, Bool.not_true, zW, zC, Int.natCast_zero, yA, R00] <;> rfl))
    | ((first | apply jf | apply jg); (iterate 2 (try (simp (maxSteps := 1000000) (disch := (first | omega | (simp only [vC]; omega))) only [push_cast, simprocAttr, takeM, dropM, zK, zA, zB, zN, zQ, zR, zO, zP, zT, zS, zU, leT, zH, hS0, hEF, Int.lt_irrefl, natNe, zI, zG, zJ, isEmpty_map, zV, zM, Bool.true_and, beq_self_eq_true, Bool.not_true, zW, zC, Int.natCast_zero, yA, R00] <;> rfl))))

  refine AW.loop (fun n s => ∃ (k : Nat), n = 0 ∧ (k = 0) ∧ s0.nx + 1 ≤ s.nx ∧ s.tm 2 = .ptr 0 0 0 1 ∧ s.tm 7 = ai E ∧ s.tm 9 = .ptr s0.nx 0 0 1 ∧ s.tm 10 = ai E ∧ s.tm 11 = ai 0 ∧ Pg.rowAt s.H 0 = some { k := 14, es := [eRec r], ty := 30 } ∧ Pg.rowAt s.H s0.nx = some { k := 14, es := [[ai 0, ai 0, ai 0, ai 0, ai 0, ai 0, ai 0, ai 0, ai 0, ai 0, ai 0, .lst [], .lst [], .lst []]], ty := 30 }) (0) ⟨0, rfl, rfl, ?_, ?_, ?_, ?_, ?_, ?_, ?_, ?_⟩ ?_
  iterate 8 (first | (simp (disch := omega) only [push_cast, simprocAttr, hS0, hEF, Int.lt_irrefl, R00, natNe, zI, zG, zJ, isEmpty_map, zV, zM, Bool.true_and, zO, beq_self_eq_true, zP, Bool.not_true, zW, zC, Int.natCast_zero, yA] <;> first | rfl | omega) | omega)
  rintro n2 s2 ⟨k2, hn2, hp02, hnl2, hS2⟩
  repeat' first
    | apply jA | apply jB | apply jC | apply jD | apply jE | apply jF | apply jG | apply jH | apply jI
    | ((first | (apply jK cx_ok; decide) | apply jM cx_ok | (apply jN; rfl; decide) | apply jR); (simp (maxSteps := 1000000) (disch := (first | omega | (simp only [vC]; omega))) only [push_cast, simprocAttr, takeM, dropM, zK, zA, zB, zN, zQ, zR, zO, zP, zT, zS, zU, leT, zH, hS2, hEF, Int.lt_irrefl, natNe, zI, zG, zJ, isEmpty_map, zV, zM, Bool.true_and, beq_self_eq_true, Bool.not_true, zW, zC, Int.natCast_zero, yA] <;> rfl); all_goals try ((with_reducible intro hI); try first | (cases hI; done) | (simp only [INTS, zL] at hI; try first | (exfalso; omega) | (have hT : True := hI; clear hT hI))))
    | ((apply jP; rfl; decide); (simp (maxSteps := 1000000) (disch := (first | omega | (simp only [vC]; omega))) only [push_cast, simprocAttr, takeM, dropM, zK, zA, zB, zN, zQ, zR, zO, zP, zT, zS, zU, leT, zH, hS2, hEF, Int.lt_irrefl, natNe, zI, zG, zJ, isEmpty_map, zV, zM, Bool.true_and, beq_self_eq_true, Bool.not_true, zW, zC, Int.natCast_zero, yA] <;> rfl))
    | (apply jT cx_ok; decide; rfl; rfl; rfl; decide; (iterate 3 (simp (maxSteps := 1000000) (disch := (first | omega | (simp only [vC]; omega))) only [push_cast, simprocAttr, takeM, dropM, zK, zA, zB, zN, zQ, zR, zO, zP, zT, zS, zU, leT, zH, hS2, hEF, Int.lt_irrefl, natNe, zI, zG, zJ, isEmpty_map, zV, zM, Bool.true_and, beq_self_eq_true, Bool.not_true, zW, zC, Int.natCast_zero, yA] <;> rfl)); (first | (focus (simp; done)) | (intro c hc; obtain ⟨x, _, rfl⟩ := List.mem_map.1 hc; rfl)); ((first | rfl | simp (maxSteps := 1000000) (disch := omega) only [push_cast])); ((try dsimp only); (try simp only [vC]); omega); ((try dsimp only); (try simp only [vC]); omega))
    | ((apply jV cx_ok; decide); (iterate 2 (simp (maxSteps := 1000000) (disch := (first | omega | (simp only [vC]; omega))) only [push_cast, simprocAttr, takeM, dropM, zK, zA, zB, zN, zQ, zR, zO, zP, zT, zS, zU, leT, zH, hS2, hEF, Int.lt_irrefl, natNe, zI, zG, zJ, isEmpty_map, zV, zM, Bool.true_and, beq_self_eq_true, Bool.not_true, zW, zC, Int.natCast_zero, yA] <;> rfl)); (with_reducible first | exact csm | exact c20 | exact c39 | exact c40 | exact c38); try first | rfl | (simp (maxSteps := 1000000) (disch := (first | omega | (simp only [vC]; omega))) only [push_cast, simprocAttr, takeM, dropM, zK, zA, zB, zN, zQ, zR, zO, zP, zT, zS, zU, leT, zH, hS2, hEF, Int.lt_irrefl, natNe, zI, zG, zJ, isEmpty_map, zV, zM, Bool.true_and, beq_self_eq_true, Bool.not_true, zW, zC, Int.natCast_zero, yA] <;> rfl))
    | ((first | apply jf | apply jg); (iterate 2 (try (simp (maxSteps := 1000000) (disch := (first | omega | (simp only [vC]; omega))) only [push_cast, simprocAttr, takeM, dropM, zK, zA, zB, zN, zQ, zR, zO, zP, zT, zS, zU, leT, zH, hS2, hEF, Int.lt_irrefl, natNe, zI, zG, zJ, isEmpty_map, zV, zM, Bool.true_and, beq_self_eq_true, Bool.not_true, zW, zC, Int.natCast_zero, yA] <;> rfl))))

  refine AW.loop (fun n s => ∃ (k : Nat), n = 0 ∧ (k = 0) ∧ s0.nx + 1 ≤ s.nx ∧ s.tm 2 = .ptr 0 0 0 1 ∧ s.tm 7 = ai E ∧ s.tm 9 = .ptr s0.nx 0 0 1 ∧ s.tm 10 = ai E ∧ s.tm 12 = ai 0 ∧ Pg.rowAt s.H 0 = some { k := 14, es := [eRec r], ty := 30 } ∧ Pg.rowAt s.H s0.nx = some { k := 14, es := [[ai 0, ai 0, ai 0, ai 0, ai 0, ai 0, ai 0, ai 0, ai 0, ai 0, ai 0, .lst [], .lst [], .lst []]], ty := 30 }) (0) ⟨0, rfl, rfl, ?_, ?_, ?_, ?_, ?_, ?_, ?_, ?_⟩ ?_
  iterate 8 (first | (simp (disch := omega) only [push_cast, simprocAttr, hS2, hEF, Int.lt_irrefl, natNe, zI, zG, zJ, isEmpty_map, zV, zM, Bool.true_and, zO, beq_self_eq_true, zP, Bool.not_true, zW, zC, Int.natCast_zero, yA] <;> first | rfl | omega) | omega)
  rintro n4 s4 ⟨k4, hn4, hp04, hnl4, hS4⟩
  repeat' first
    | apply jA | apply jB | apply jC | apply jD | apply jE | apply jF | apply jG | apply jH | apply jI
    | ((first | (apply jK cx_ok; decide) | apply jM cx_ok | (apply jN; rfl; decide) | apply jR); (simp (maxSteps := 1000000) (disch := (first | omega | (simp only [vC]; omega))) only [push_cast, simprocAttr, takeM, dropM, zK, zA, zB, zN, zQ, zR, zO, zP, zT, zS, zU, leT, zH, hS4, hEF, Int.lt_irrefl, natNe, zI, zG, zJ, isEmpty_map, zV, zM, Bool.true_and, beq_self_eq_true, Bool.not_true, zW, zC, Int.natCast_zero, yA] <;> rfl); all_goals try ((with_reducible intro hI); try first | (cases hI; done) | (simp only [INTS, zL] at hI; try first | (exfalso; omega) | (have hT : True := hI; clear hT hI))))
    | ((apply jP; rfl; decide); (simp (maxSteps := 1000000) (disch := (first | omega | (simp only [vC]; omega))) only [push_cast, simprocAttr, takeM, dropM, zK, zA, zB, zN, zQ, zR, zO, zP, zT, zS, zU, leT, zH, hS4, hEF, Int.lt_irrefl, natNe, zI, zG, zJ, isEmpty_map, zV, zM, Bool.true_and, beq_self_eq_true, Bool.not_true, zW, zC, Int.natCast_zero, yA] <;> rfl))
    | (apply jT cx_ok; decide; rfl; rfl; rfl; decide; (iterate 3 (simp (maxSteps := 1000000) (disch := (first | omega | (simp only [vC]; omega))) only [push_cast, simprocAttr, takeM, dropM, zK, zA, zB, zN, zQ, zR, zO, zP, zT, zS, zU, leT, zH, hS4, hEF, Int.lt_irrefl, natNe, zI, zG, zJ, isEmpty_map, zV, zM, Bool.true_and, beq_self_eq_true, Bool.not_true, zW, zC, Int.natCast_zero, yA] <;> rfl)); (first | (focus (simp; done)) | (intro c hc; obtain ⟨x, _, rfl⟩ := List.mem_map.1 hc; rfl)); ((first | rfl | simp (maxSteps := 1000000) (disch := omega) only [push_cast])); ((try dsimp only); (try simp only [vC]); omega); ((try dsimp only); (try simp only [vC]); omega))
    | ((apply jV cx_ok; decide); (iterate 2 (simp (maxSteps := 1000000) (disch := (first | omega | (simp only [vC]; omega))) only [push_cast, simprocAttr, takeM, dropM, zK, zA, zB, zN, zQ, zR, zO, zP, zT, zS, zU, leT, zH, hS4, hEF, Int.lt_irrefl, natNe, zI, zG, zJ, isEmpty_map, zV, zM, Bool.true_and, beq_self_eq_true, Bool.not_true, zW, zC, Int.natCast_zero, yA] <;> rfl)); (with_reducible first | exact csm | exact c20 | exact c39 | exact c40 | exact c38); try first | rfl | (simp (maxSteps := 1000000) (disch := (first | omega | (simp only [vC]; omega))) only [push_cast, simprocAttr, takeM, dropM, zK, zA, zB, zN, zQ, zR, zO, zP, zT, zS, zU, leT, zH, hS4, hEF, Int.lt_irrefl, natNe, zI, zG, zJ, isEmpty_map, zV, zM, Bool.true_and, beq_self_eq_true, Bool.not_true, zW, zC, Int.natCast_zero, yA] <;> rfl))
    | ((first | apply jf | apply jg); (iterate 2 (try (simp (maxSteps := 1000000) (disch := (first | omega | (simp only [vC]; omega))) only [push_cast, simprocAttr, takeM, dropM, zK, zA, zB, zN, zQ, zR, zO, zP, zT, zS, zU, leT, zH, hS4, hEF, Int.lt_irrefl, natNe, zI, zG, zJ, isEmpty_map, zV, zM, Bool.true_and, beq_self_eq_true, Bool.not_true, zW, zC, Int.natCast_zero, yA] <;> rfl))))

  refine AW.loop (fun n s => ∃ (k : Nat), n = 0 ∧ (k = 0) ∧ s0.nx + 1 ≤ s.nx ∧ s.tm 2 = .ptr 0 0 0 1 ∧ s.tm 7 = ai E ∧ s.tm 9 = .ptr s0.nx 0 0 1 ∧ s.tm 10 = ai E ∧ s.tm 13 = ai 0 ∧ Pg.rowAt s.H 0 = some { k := 14, es := [eRec r], ty := 30 } ∧ Pg.rowAt s.H s0.nx = some { k := 14, es := [[ai 0, ai 0, ai 0, ai 0, ai 0, ai 0, ai 0, ai 0, ai 0, ai 0, ai 0, .lst [], .lst [], .lst []]], ty := 30 }) (0) ⟨0, rfl, rfl, ?_, ?_, ?_, ?_, ?_, ?_, ?_, ?_⟩ ?_
  iterate 8 (first | (simp (disch := omega) only [push_cast, simprocAttr, hS4, hEF, Int.lt_irrefl, natNe, zI, zG, zJ, isEmpty_map, zV, zM, Bool.true_and, zO, beq_self_eq_true, zP, Bool.not_true, zW, zC, Int.natCast_zero, yA] <;> first | rfl | omega) | omega)
  rintro n6 s6 ⟨k6, hn6, hp06, hnl6, hS6⟩
  repeat' first
    | apply jA | apply jB | apply jC | apply jD | apply jE | apply jF | apply jG | apply jH | apply jI
    | ((first | (apply jK cx_ok; decide) | apply jM cx_ok | (apply jN; rfl; decide) | apply jR); (simp (maxSteps := 1000000) (disch := (first | omega | (simp only [vC]; omega))) only [push_cast, simprocAttr, takeM, dropM, zK, zA, zB, zN, zQ, zR, zO, zP, zT, zS, zU, leT, zH, hS6, hEF, Int.lt_irrefl, natNe, zI, zG, zJ, isEmpty_map, zV, zM, Bool.true_and, beq_self_eq_true, Bool.not_true, zW, zC, Int.natCast_zero, yA] <;> rfl); all_goals try ((with_reducible intro hI); try first | (cases hI; done) | (simp only [INTS, zL] at hI; try first | (exfalso; omega) | (have hT : True := hI; clear hT hI))))
    | ((apply jP; rfl; decide); (simp (maxSteps := 1000000) (disch := (first | omega | (simp only [vC]; omega))) only [push_cast, simprocAttr, takeM, dropM, zK, zA, zB, zN, zQ, zR, zO, zP, zT, zS, zU, leT, zH, hS6, hEF, Int.lt_irrefl, natNe, zI, zG, zJ, isEmpty_map, zV, zM, Bool.true_and, beq_self_eq_true, Bool.not_true, zW, zC, Int.natCast_zero, yA] <;> rfl))
    | (apply jT cx_ok; decide; rfl; rfl; rfl; decide; (iterate 3 (simp (maxSteps := 1000000) (disch := (first | omega | (simp only [vC]; omega))) only [push_cast, simprocAttr, takeM, dropM, zK, zA, zB, zN, zQ, zR, zO, zP, zT, zS, zU, leT, zH, hS6, hEF, Int.lt_irrefl, natNe, zI, zG, zJ, isEmpty_map, zV, zM, Bool.true_and, beq_self_eq_true, Bool.not_true, zW, zC, Int.natCast_zero, yA] <;> rfl)); (first | (focus (simp; done)) | (intro c hc; obtain ⟨x, _, rfl⟩ := List.mem_map.1 hc; rfl)); ((first | rfl | simp (maxSteps := 1000000) (disch := omega) only [push_cast])); ((try dsimp only); (try simp only [vC]); omega); ((try dsimp only); (try simp only [vC]); omega))
    | ((apply jV cx_ok; decide); (iterate 2 (simp (maxSteps := 1000000) (disch := (first | omega | (simp only [vC]; omega))) only [push_cast, simprocAttr, takeM, dropM, zK, zA, zB, zN, zQ, zR, zO, zP, zT, zS, zU, leT, zH, hS6, hEF, Int.lt_irrefl, natNe, zI, zG, zJ, isEmpty_map, zV, zM, Bool.true_and, beq_self_eq_true, Bool.not_true, zW, zC, Int.natCast_zero, yA] <;> rfl)); (with_reducible first | exact csm | exact c20 | exact c39 | exact c40 | exact c38); try first | rfl | (simp (maxSteps := 1000000) (disch := (first | omega | (simp only [vC]; omega))) only [push_cast, simprocAttr, takeM, dropM, zK, zA, zB, zN, zQ, zR, zO, zP, zT, zS, zU, leT, zH, hS6, hEF, Int.lt_irrefl, natNe, zI, zG, zJ, isEmpty_map, zV, zM, Bool.true_and, beq_self_eq_true, Bool.not_true, zW, zC, Int.natCast_zero, yA] <;> rfl))
    | ((first | apply jf | apply jg); (iterate 2 (try (simp (maxSteps := 1000000) (disch := (first | omega | (simp only [vC]; omega))) only [push_cast, simprocAttr, takeM, dropM, zK, zA, zB, zN, zQ, zR, zO, zP, zT, zS, zU, leT, zH, hS6, hEF, Int.lt_irrefl, natNe, zI, zG, zJ, isEmpty_map, zV, zM, Bool.true_and, beq_self_eq_true, Bool.not_true, zW, zC, Int.natCast_zero, yA] <;> rfl))))

  all_goals (show _ = _; rfl)
theorem law8_ok (r : Rec) (ids : List Int) : OKv cx 8 [.agg (eRec r), lInt ids] (ab true) := by
  have csm := small_ok r
  have c20 := sanity_ok
  cases hsm : smallB r with
  | false =>
    rw [hsm] at csm
    refine OKat.of_body (rs := [4]) Try.func8 rfl (by decide +kernel) rfl (by simp [Try.ntmps8]) ?_
    simp only [Try.ntmps8]
    repeat' first
      | apply jA | apply jB | apply jC | apply jD | apply jE | apply jF | apply jG | apply jH | apply jI
      | ((first | (apply jK cx_ok; decide) | apply jM cx_ok | (apply jN; rfl; decide) | apply jR); (simp (disch := omega) only [push_cast, simprocAttr] <;> rfl); all_goals try ((with_reducible intro hI); try first | (cases hI; done) | (simp only [INTS, zL] at hI; try first | (exfalso; omega) | (have hT : True := hI; clear hT hI))))
      | ((apply jP; rfl; decide); (simp (disch := omega) only [push_cast, simprocAttr] <;> rfl))
      | ((apply jV cx_ok; decide); (iterate 2 (simp (disch := omega) only [push_cast, simprocAttr] <;> rfl)); (with_reducible first | exact csm | exact c20); try first | rfl | (simp (disch := omega) only [push_cast, simprocAttr] <;> rfl))
      | ((first | apply jf | apply jg); (iterate 2 (try (simp (disch := omega) only [push_cast, simprocAttr] <;> rfl))))

    all_goals (show _ = _; rfl)
  | true =>
    rw [hsm] at csm
    by_cases hl : 30 < ids.length
    · have hlI : (30 : Int) < (ids.length : Int) := by omega
      refine OKat.of_body (rs := [4]) Try.func8 rfl (by decide +kernel) rfl (by simp [Try.ntmps8]) ?_
      simp only [Try.ntmps8]
      repeat' first
        | apply jA | apply jB | apply jC | apply jD | apply jE | apply jF | apply jG | apply jH | apply jI
        | ((first | (apply jK cx_ok; decide) | apply jM cx_ok | (apply jN; rfl; decide) | apply jR); (simp (disch := omega) only [push_cast, simprocAttr, hlI] <;> rfl); all_goals try ((with_reducible intro hI); try first | (cases hI; done) | (simp only [INTS, zL] at hI; try first | (exfalso; omega) | (have hT : True := hI; clear hT hI))))
        | ((apply jP; rfl; decide); (simp (disch := omega) only [push_cast, simprocAttr, hlI] <;> rfl))
        | ((apply jV cx_ok; decide); (iterate 2 (simp (disch := omega) only [push_cast, simprocAttr, hlI] <;> rfl)); (with_reducible first | exact csm | exact c20); try first | rfl | (simp (disch := omega) only [push_cast, simprocAttr, hlI] <;> rfl))
        | ((first | apply jf | apply jg); (iterate 2 (try (simp (disch := omega) only [push_cast, simprocAttr, hlI] <;> rfl))))

      all_goals (show _ = _; rfl)
    by_cases hc : checkE r = 0
    · exact law8_good r ids (by omega) hc csm
    · unfold smallB at hsm
      simp only [Bool.and_eq_true, decide_eq_true_eq] at hsm
      obtain ⟨⟨s1, s2⟩, s3⟩ := hsm
      have c39 : OKv cx 39 [.agg (eRec r), .lst []] (.agg (eRec r)) := by
        have := RWithout_ok r [] (by decide) (by omega) (by omega)
        rwa [without_nil] at this
      exact law8_bad r ids _ hc (by omega) (by omega) csm c39 (Links_bad r hc) (Without_bad r ids hc)
end Go.Proofs.Ks
