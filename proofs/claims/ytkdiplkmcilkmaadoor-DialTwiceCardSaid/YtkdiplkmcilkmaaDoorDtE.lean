/-
  Contracts of functions, proved by going through their code. No conditions.
-/
import Derived.Test.YtkdiplkmcilkmaaDoorDao
import Derived.Test.YtkdiplkmcilkmaaDoorDay
set_option linter.unusedVariables false
set_option linter.unusedSimpArgs false
set_option maxHeartbeats 8000000
set_option maxRecDepth 10000
namespace Go.Proofs.Ds
open Go Go.Pg Go.Proofs
theorem Twice_bad (k l : Key) (at_ ap : Int) (b : Blow) (i : Ink) (h : ¬ (keyV k = true ∧ keyV l = true ∧ inkV i = true ∧ inF b.miss 0 4095 = true ∧ inF b.dirt 0 4095 = true ∧ k.id ≠ l.id ∧ k.track = l.track ∧ 0 ≤ ap ∧ ap ≤ 60)) : OKv cx 37 [.agg (eKey k), .agg (eKey l), ai at_, ai ap, .agg (eBlow b), .agg (eInk i)] (.tup [.agg (eMark mark0), ai 1]) := by
  have c1 := CheckKey_ok k
  have c2 := CheckKey_ok l
  have c3 := CheckInk_ok i
  have c4 := pins_ok b.miss
  have c5 := pins_ok b.dirt
  cases h1 : keyV k with
  | false =>
    rw [h1] at c1
    rw [if_neg Bool.false_ne_true] at c1
    refine OKat.of_bodyM cx_ok (rs := [.cell 12 42, .tmp 13]) Tryd.func37 rfl (by decide +kernel) rfl (by simp [Tryd.ntmps37]) ?_
    simp only [Tryd.ntmps37]
    repeat' first
      | apply AW.seq | apply AW.region | apply AW.ret | apply AW.block | apply AW.skip | apply AW.exit | apply AW.scope | apply AW.label | apply AWL.nil
      | ((first | (apply W.step cx_ok; decide) | apply W.store cx_ok | (apply W.gS; rfl; decide) | apply AW.cond); (simp (disch := omega) only [push_cast, simprocAttr, natNe, List.mem_cons, List.not_mem_nil, TyD.isAgg, Nat.add_assoc, List.map_nil, List.length_nil, Bool.and_self, Bool.and_true, Bool.true_and, Bool.false_and, Bool.and_false, Bool.not_true, Bool.not_false, Bool.false_eq_true] <;> rfl); all_goals try ((with_reducible intro hI); try first | (cases hI; done) | (simp only [INTS, not_true_eq_false] at hI; try first | (exfalso; omega) | (have hT : True := hI; clear hT hI))))
      | ((apply W.callv cx_ok; decide); (iterate 2 (simp (disch := omega) only [push_cast, simprocAttr, natNe, List.mem_cons, List.not_mem_nil, TyD.isAgg, Nat.add_assoc, List.map_nil, List.length_nil, Bool.and_self, Bool.and_true, Bool.true_and, Bool.false_and, Bool.and_false, Bool.not_true, Bool.not_false, Bool.false_eq_true] <;> rfl)); (with_reducible first | exact c1 | exact c2 | exact c3 | exact c4 | exact c5); try first | rfl | (simp (disch := omega) only [push_cast, simprocAttr, natNe, List.mem_cons, List.not_mem_nil, TyD.isAgg, Nat.add_assoc, List.map_nil, List.length_nil, Bool.and_self, Bool.and_true, Bool.true_and, Bool.false_and, Bool.and_false, Bool.not_true, Bool.not_false, Bool.false_eq_true] <;> rfl))
      | ((first | apply W.retM | apply W.endM'); (iterate 2 (try (simp (disch := omega) only [push_cast, simprocAttr, natNe, List.mem_cons, List.not_mem_nil, TyD.isAgg, Nat.add_assoc, List.map_nil, List.length_nil, Bool.and_self, Bool.and_true, Bool.true_and, Bool.false_and, Bool.and_false, Bool.not_true, Bool.not_false, Bool.false_eq_true] <;> rfl))))

    all_goals (show _ = _; rfl)
  | true =>
  rw [h1] at c1
  rw [if_pos rfl] at c1
  cases h2 : keyV l with
  | false =>
    rw [h2] at c2
    rw [if_neg Bool.false_ne_true] at c2
    refine OKat.of_bodyM cx_ok (rs := [.cell 12 42, .tmp 13]) Tryd.func37 rfl (by decide +kernel) rfl (by simp [Tryd.ntmps37]) ?_
    simp only [Tryd.ntmps37]
    repeat' first
      | apply AW.seq | apply AW.region | apply AW.ret | apply AW.block | apply AW.skip | apply AW.exit | apply AW.scope | apply AW.label | apply AWL.nil
      | ((first | (apply W.step cx_ok; decide) | apply W.store cx_ok | (apply W.gS; rfl; decide) | apply AW.cond); (simp (disch := omega) only [push_cast, simprocAttr, natNe, List.mem_cons, List.not_mem_nil, TyD.isAgg, Nat.add_assoc, List.map_nil, List.length_nil, Bool.and_self, Bool.and_true, Bool.true_and, Bool.false_and, Bool.and_false, Bool.not_true, Bool.not_false, Bool.false_eq_true] <;> rfl); all_goals try ((with_reducible intro hI); try first | (cases hI; done) | (simp only [INTS, not_true_eq_false] at hI; try first | (exfalso; omega) | (have hT : True := hI; clear hT hI))))
      | ((apply W.callv cx_ok; decide); (iterate 2 (simp (disch := omega) only [push_cast, simprocAttr, natNe, List.mem_cons, List.not_mem_nil, TyD.isAgg, Nat.add_assoc, List.map_nil, List.length_nil, Bool.and_self, Bool.and_true, Bool.true_and, Bool.false_and, Bool.and_false, Bool.not_true, Bool.not_false, Bool.false_eq_true] <;> rfl)); (with_reducible first | exact c1 | exact c2 | exact c3 | exact c4 | exact c5); try first | rfl | (simp (disch := omega) only [push_cast, simprocAttr, natNe, List.mem_cons, List.not_mem_nil, TyD.isAgg, Nat.add_assoc, List.map_nil, List.length_nil, Bool.and_self, Bool.and_true, Bool.true_and, Bool.false_and, Bool.and_false, Bool.not_true, Bool.not_false, Bool.false_eq_true] <;> rfl))
      | ((first | apply W.retM | apply W.endM'); (iterate 2 (try (simp (disch := omega) only [push_cast, simprocAttr, natNe, List.mem_cons, List.not_mem_nil, TyD.isAgg, Nat.add_assoc, List.map_nil, List.length_nil, Bool.and_self, Bool.and_true, Bool.true_and, Bool.false_and, Bool.and_false, Bool.not_true, Bool.not_false, Bool.false_eq_true] <;> rfl))))

    all_goals (show _ = _; rfl)
  | true =>
  rw [h2] at c2
  rw [if_pos rfl] at c2
  cases h3 : inkV i with
  | false =>
    rw [h3] at c3
    rw [if_neg Bool.false_ne_true] at c3
    refine OKat.of_bodyM cx_ok (rs := [.cell 12 42, .tmp 13]) Tryd.func37 rfl (by decide +kernel) rfl (by simp [Tryd.ntmps37]) ?_
    simp only [Tryd.ntmps37]
    repeat' first
      | apply AW.seq | apply AW.region | apply AW.ret | apply AW.block | apply AW.skip | apply AW.exit | apply AW.scope | apply AW.label | apply AWL.nil
      | ((first | (apply W.step cx_ok; decide) | apply W.store cx_ok | (apply W.gS; rfl; decide) | apply AW.cond); (simp (disch := omega) only [push_cast, simprocAttr, natNe, List.mem_cons, List.not_mem_nil, TyD.isAgg, Nat.add_assoc, List.map_nil, List.length_nil, Bool.and_self, Bool.and_true, Bool.true_and, Bool.false_and, Bool.and_false, Bool.not_true, Bool.not_false, Bool.false_eq_true] <;> rfl); all_goals try ((with_reducible intro hI); try first | (cases hI; done) | (simp only [INTS, not_true_eq_false] at hI; try first | (exfalso; omega) | (have hT : True := hI; clear hT hI))))
      | ((apply W.callv cx_ok; decide); (iterate 2 (simp (disch := omega) only [push_cast, simprocAttr, natNe, List.mem_cons, List.not_mem_nil, TyD.isAgg, Nat.add_assoc, List.map_nil, List.length_nil, Bool.and_self, Bool.and_true, Bool.true_and, Bool.false_and, Bool.and_false, Bool.not_true, Bool.not_false, Bool.false_eq_true] <;> rfl)); (with_reducible first | exact c1 | exact c2 | exact c3 | exact c4 | exact c5); try first | rfl | (simp (disch := omega) only [push_cast, simprocAttr, natNe, List.mem_cons, List.not_mem_nil, TyD.isAgg, Nat.add_assoc, List.map_nil, List.length_nil, Bool.and_self, Bool.and_true, Bool.true_and, Bool.false_and, Bool.and_false, Bool.not_true, Bool.not_false, Bool.false_eq_true] <;> rfl))
      | ((first | apply W.retM | apply W.endM'); (iterate 2 (try (simp (disch := omega) only [push_cast, simprocAttr, natNe, List.mem_cons, List.not_mem_nil, TyD.isAgg, Nat.add_assoc, List.map_nil, List.length_nil, Bool.and_self, Bool.and_true, Bool.true_and, Bool.false_and, Bool.and_false, Bool.not_true, Bool.not_false, Bool.false_eq_true] <;> rfl))))

    all_goals (show _ = _; rfl)
  | true =>
  rw [h3] at c3
  rw [if_pos rfl] at c3
  cases h4 : inF b.miss 0 4095 with
  | false =>
    rw [h4] at c4
    refine OKat.of_bodyM cx_ok (rs := [.cell 12 42, .tmp 13]) Tryd.func37 rfl (by decide +kernel) rfl (by simp [Tryd.ntmps37]) ?_
    simp only [Tryd.ntmps37]
    repeat' first
      | apply AW.seq | apply AW.region | apply AW.ret | apply AW.block | apply AW.skip | apply AW.exit | apply AW.scope | apply AW.label | apply AWL.nil
      | ((first | (apply W.step cx_ok; decide) | apply W.store cx_ok | (apply W.gS; rfl; decide) | apply AW.cond); (simp (disch := omega) only [push_cast, simprocAttr, natNe, List.mem_cons, List.not_mem_nil, TyD.isAgg, Nat.add_assoc, List.map_nil, List.length_nil, Bool.and_self, Bool.and_true, Bool.true_and, Bool.false_and, Bool.and_false, Bool.not_true, Bool.not_false, Bool.false_eq_true] <;> rfl); all_goals try ((with_reducible intro hI); try first | (cases hI; done) | (simp only [INTS, not_true_eq_false] at hI; try first | (exfalso; omega) | (have hT : True := hI; clear hT hI))))
      | ((apply W.callv cx_ok; decide); (iterate 2 (simp (disch := omega) only [push_cast, simprocAttr, natNe, List.mem_cons, List.not_mem_nil, TyD.isAgg, Nat.add_assoc, List.map_nil, List.length_nil, Bool.and_self, Bool.and_true, Bool.true_and, Bool.false_and, Bool.and_false, Bool.not_true, Bool.not_false, Bool.false_eq_true] <;> rfl)); (with_reducible first | exact c1 | exact c2 | exact c3 | exact c4 | exact c5); try first | rfl | (simp (disch := omega) only [push_cast, simprocAttr, natNe, List.mem_cons, List.not_mem_nil, TyD.isAgg, Nat.add_assoc, List.map_nil, List.length_nil, Bool.and_self, Bool.and_true, Bool.true_and, Bool.false_and, Bool.and_false, Bool.not_true, Bool.not_false, Bool.false_eq_true] <;> rfl))
      | ((first | apply W.retM | apply W.endM'); (iterate 2 (try (simp (disch := omega) only [push_cast, simprocAttr, natNe, List.mem_cons, List.not_mem_nil, TyD.isAgg, Nat.add_assoc, List.map_nil, List.length_nil, Bool.and_self, Bool.and_true, Bool.true_and, Bool.false_and, Bool.and_false, Bool.not_true, Bool.not_false, Bool.false_eq_true] <;> rfl))))

    all_goals (show _ = _; rfl)
  | true =>
  rw [h4] at c4
  cases h5 : inF b.dirt 0 4095 with
  | false =>
    rw [h5] at c5
    refine OKat.of_bodyM cx_ok (rs := [.cell 12 42, .tmp 13]) Tryd.func37 rfl (by decide +kernel) rfl (by simp [Tryd.ntmps37]) ?_
    simp only [Tryd.ntmps37]
    repeat' first
      | apply AW.seq | apply AW.region | apply AW.ret | apply AW.block | apply AW.skip | apply AW.exit | apply AW.scope | apply AW.label | apply AWL.nil
      | ((first | (apply W.step cx_ok; decide) | apply W.store cx_ok | (apply W.gS; rfl; decide) | apply AW.cond); (simp (disch := omega) only [push_cast, simprocAttr, natNe, List.mem_cons, List.not_mem_nil, TyD.isAgg, Nat.add_assoc, List.map_nil, List.length_nil, Bool.and_self, Bool.and_true, Bool.true_and, Bool.false_and, Bool.and_false, Bool.not_true, Bool.not_false, Bool.false_eq_true] <;> rfl); all_goals try ((with_reducible intro hI); try first | (cases hI; done) | (simp only [INTS, not_true_eq_false] at hI; try first | (exfalso; omega) | (have hT : True := hI; clear hT hI))))
      | ((apply W.callv cx_ok; decide); (iterate 2 (simp (disch := omega) only [push_cast, simprocAttr, natNe, List.mem_cons, List.not_mem_nil, TyD.isAgg, Nat.add_assoc, List.map_nil, List.length_nil, Bool.and_self, Bool.and_true, Bool.true_and, Bool.false_and, Bool.and_false, Bool.not_true, Bool.not_false, Bool.false_eq_true] <;> rfl)); (with_reducible first | exact c1 | exact c2 | exact c3 | exact c4 | exact c5); try first | rfl | (simp (disch := omega) only [push_cast, simprocAttr, natNe, List.mem_cons, List.not_mem_nil, TyD.isAgg, Nat.add_assoc, List.map_nil, List.length_nil, Bool.and_self, Bool.and_true, Bool.true_and, Bool.false_and, Bool.and_false, Bool.not_true, Bool.not_false, Bool.false_eq_true] <;> rfl))
      | ((first | apply W.retM | apply W.endM'); (iterate 2 (try (simp (disch := omega) only [push_cast, simprocAttr, natNe, List.mem_cons, List.not_mem_nil, TyD.isAgg, Nat.add_assoc, List.map_nil, List.length_nil, Bool.and_self, Bool.and_true, Bool.true_and, Bool.false_and, Bool.and_false, Bool.not_true, Bool.not_false, Bool.false_eq_true] <;> rfl))))

    all_goals (show _ = _; rfl)
  | true =>
  rw [h5] at c5
  by_cases g1 : k.id = l.id
  · have x1 := eq_true g1
    have y1 : (k.id == l.id) = true := by simpa using g1
    refine OKat.of_bodyM cx_ok (rs := [.cell 12 42, .tmp 13]) Tryd.func37 rfl (by decide +kernel) rfl (by simp [Tryd.ntmps37]) ?_
    simp only [Tryd.ntmps37]
    repeat' first
      | apply AW.seq | apply AW.region | apply AW.ret | apply AW.block | apply AW.skip | apply AW.exit | apply AW.scope | apply AW.label | apply AWL.nil
      | ((first | (apply W.step cx_ok; decide) | apply W.store cx_ok | (apply W.gS; rfl; decide) | apply AW.cond); (simp (disch := omega) only [push_cast, simprocAttr, natNe, List.mem_cons, List.not_mem_nil, TyD.isAgg, Nat.add_assoc, List.map_nil, List.length_nil, Bool.and_self, Bool.and_true, Bool.true_and, Bool.false_and, Bool.and_false, Bool.not_true, Bool.not_false, Bool.false_eq_true, x1, y1] <;> rfl); all_goals try ((with_reducible intro hI); try first | (cases hI; done) | (simp only [INTS, not_true_eq_false] at hI; try first | (exfalso; omega) | (have hT : True := hI; clear hT hI))))
      | ((apply W.callv cx_ok; decide); (iterate 2 (simp (disch := omega) only [push_cast, simprocAttr, natNe, List.mem_cons, List.not_mem_nil, TyD.isAgg, Nat.add_assoc, List.map_nil, List.length_nil, Bool.and_self, Bool.and_true, Bool.true_and, Bool.false_and, Bool.and_false, Bool.not_true, Bool.not_false, Bool.false_eq_true, x1, y1] <;> rfl)); (with_reducible first | exact c1 | exact c2 | exact c3 | exact c4 | exact c5); try first | rfl | (simp (disch := omega) only [push_cast, simprocAttr, natNe, List.mem_cons, List.not_mem_nil, TyD.isAgg, Nat.add_assoc, List.map_nil, List.length_nil, Bool.and_self, Bool.and_true, Bool.true_and, Bool.false_and, Bool.and_false, Bool.not_true, Bool.not_false, Bool.false_eq_true, x1, y1] <;> rfl))
      | ((first | apply W.retM | apply W.endM'); (iterate 2 (try (simp (disch := omega) only [push_cast, simprocAttr, natNe, List.mem_cons, List.not_mem_nil, TyD.isAgg, Nat.add_assoc, List.map_nil, List.length_nil, Bool.and_self, Bool.and_true, Bool.true_and, Bool.false_and, Bool.and_false, Bool.not_true, Bool.not_false, Bool.false_eq_true, x1, y1] <;> rfl))))

    all_goals (show _ = _; rfl)
  have x1 := eq_false g1
  have y1 : (k.id == l.id) = false := by simpa using g1
  by_cases g2 : k.track = l.track
  rotate_left
  · have x2 := eq_false g2
    have y2 : (k.track == l.track) = false := by simpa using g2
    refine OKat.of_bodyM cx_ok (rs := [.cell 12 42, .tmp 13]) Tryd.func37 rfl (by decide +kernel) rfl (by simp [Tryd.ntmps37]) ?_
    simp only [Tryd.ntmps37]
    repeat' first
      | apply AW.seq | apply AW.region | apply AW.ret | apply AW.block | apply AW.skip | apply AW.exit | apply AW.scope | apply AW.label | apply AWL.nil
      | ((first | (apply W.step cx_ok; decide) | apply W.store cx_ok | (apply W.gS; rfl; decide) | apply AW.cond); (simp (disch := omega) only [push_cast, simprocAttr, natNe, List.mem_cons, List.not_mem_nil, TyD.isAgg, Nat.add_assoc, List.map_nil, List.length_nil, Bool.and_self, Bool.and_true, Bool.true_and, Bool.false_and, Bool.and_false, Bool.not_true, Bool.not_false, Bool.false_eq_true, x1, y1, x2, y2] <;> rfl); all_goals try ((with_reducible intro hI); try first | (cases hI; done) | (simp only [INTS, not_true_eq_false] at hI; try first | (exfalso; omega) | (have hT : True := hI; clear hT hI))))
      | ((apply W.callv cx_ok; decide); (iterate 2 (simp (disch := omega) only [push_cast, simprocAttr, natNe, List.mem_cons, List.not_mem_nil, TyD.isAgg, Nat.add_assoc, List.map_nil, List.length_nil, Bool.and_self, Bool.and_true, Bool.true_and, Bool.false_and, Bool.and_false, Bool.not_true, Bool.not_false, Bool.false_eq_true, x1, y1, x2, y2] <;> rfl)); (with_reducible first | exact c1 | exact c2 | exact c3 | exact c4 | exact c5); try first | rfl | (simp (disch := omega) only [push_cast, simprocAttr, natNe, List.mem_cons, List.not_mem_nil, TyD.isAgg, Nat.add_assoc, List.map_nil, List.length_nil, Bool.and_self, Bool.and_true, Bool.true_and, Bool.false_and, Bool.and_false, Bool.not_true, Bool.not_false, Bool.false_eq_true, x1, y1, x2, y2] <;> rfl))
      | ((first | apply W.retM | apply W.endM'); (iterate 2 (try (simp (disch := omega) only [push_cast, simprocAttr, natNe, List.mem_cons, List.not_mem_nil, TyD.isAgg, Nat.add_assoc, List.map_nil, List.length_nil, Bool.and_self, Bool.and_true, Bool.true_and, Bool.false_and, Bool.and_false, Bool.not_true, Bool.not_false, Bool.false_eq_true, x1, y1, x2, y2] <;> rfl))))

    all_goals (show _ = _; rfl)
  have x2 := eq_true g2
  have y2 : (k.track == l.track) = true := by simpa using g2
  by_cases g3 : ap < 0
  · have x3 := eq_true g3
    refine OKat.of_bodyM cx_ok (rs := [.cell 12 42, .tmp 13]) Tryd.func37 rfl (by decide +kernel) rfl (by simp [Tryd.ntmps37]) ?_
    simp only [Tryd.ntmps37]
    repeat' first
      | apply AW.seq | apply AW.region | apply AW.ret | apply AW.block | apply AW.skip | apply AW.exit | apply AW.scope | apply AW.label | apply AWL.nil
      | ((first | (apply W.step cx_ok; decide) | apply W.store cx_ok | (apply W.gS; rfl; decide) | apply AW.cond); (simp (disch := omega) only [push_cast, simprocAttr, natNe, List.mem_cons, List.not_mem_nil, TyD.isAgg, Nat.add_assoc, List.map_nil, List.length_nil, Bool.and_self, Bool.and_true, Bool.true_and, Bool.false_and, Bool.and_false, Bool.not_true, Bool.not_false, Bool.false_eq_true, x1, y1, x2, y2, x3] <;> rfl); all_goals try ((with_reducible intro hI); try first | (cases hI; done) | (simp only [INTS, not_true_eq_false] at hI; try first | (exfalso; omega) | (have hT : True := hI; clear hT hI))))
      | ((apply W.callv cx_ok; decide); (iterate 2 (simp (disch := omega) only [push_cast, simprocAttr, natNe, List.mem_cons, List.not_mem_nil, TyD.isAgg, Nat.add_assoc, List.map_nil, List.length_nil, Bool.and_self, Bool.and_true, Bool.true_and, Bool.false_and, Bool.and_false, Bool.not_true, Bool.not_false, Bool.false_eq_true, x1, y1, x2, y2, x3] <;> rfl)); (with_reducible first | exact c1 | exact c2 | exact c3 | exact c4 | exact c5); try first | rfl | (simp (disch := omega) only [push_cast, simprocAttr, natNe, List.mem_cons, List.not_mem_nil, TyD.isAgg, Nat.add_assoc, List.map_nil, List.length_nil, Bool.and_self, Bool.and_true, Bool.true_and, Bool.false_and, Bool.and_false, Bool.not_true, Bool.not_false, Bool.false_eq_true, x1, y1, x2, y2, x3] <;> rfl))
      | ((first | apply W.retM | apply W.endM'); (iterate 2 (try (simp (disch := omega) only [push_cast, simprocAttr, natNe, List.mem_cons, List.not_mem_nil, TyD.isAgg, Nat.add_assoc, List.map_nil, List.length_nil, Bool.and_self, Bool.and_true, Bool.true_and, Bool.false_and, Bool.and_false, Bool.not_true, Bool.not_false, Bool.false_eq_true, x1, y1, x2, y2, x3] <;> rfl))))

    all_goals (show _ = _; rfl)
  have x3 := eq_false g3
  by_cases g4 : ap > 60
  · have x4 := eq_true g4
    refine OKat.of_bodyM cx_ok (rs := [.cell 12 42, .tmp 13]) Tryd.func37 rfl (by decide +kernel) rfl (by simp [Tryd.ntmps37]) ?_
    simp only [Tryd.ntmps37]
    repeat' first
      | apply AW.seq | apply AW.region | apply AW.ret | apply AW.block | apply AW.skip | apply AW.exit | apply AW.scope | apply AW.label | apply AWL.nil
      | ((first | (apply W.step cx_ok; decide) | apply W.store cx_ok | (apply W.gS; rfl; decide) | apply AW.cond); (simp (disch := omega) only [push_cast, simprocAttr, natNe, List.mem_cons, List.not_mem_nil, TyD.isAgg, Nat.add_assoc, List.map_nil, List.length_nil, Bool.and_self, Bool.and_true, Bool.true_and, Bool.false_and, Bool.and_false, Bool.not_true, Bool.not_false, Bool.false_eq_true, x1, y1, x2, y2, x3, x4] <;> rfl); all_goals try ((with_reducible intro hI); try first | (cases hI; done) | (simp only [INTS, not_true_eq_false] at hI; try first | (exfalso; omega) | (have hT : True := hI; clear hT hI))))
      | ((apply W.callv cx_ok; decide); (iterate 2 (simp (disch := omega) only [push_cast, simprocAttr, natNe, List.mem_cons, List.not_mem_nil, TyD.isAgg, Nat.add_assoc, List.map_nil, List.length_nil, Bool.and_self, Bool.and_true, Bool.true_and, Bool.false_and, Bool.and_false, Bool.not_true, Bool.not_false, Bool.false_eq_true, x1, y1, x2, y2, x3, x4] <;> rfl)); (with_reducible first | exact c1 | exact c2 | exact c3 | exact c4 | exact c5); try first | rfl | (simp (disch := omega) only [push_cast, simprocAttr, natNe, List.mem_cons, List.not_mem_nil, TyD.isAgg, Nat.add_assoc, List.map_nil, List.length_nil, Bool.and_self, Bool.and_true, Bool.true_and, Bool.false_and, Bool.and_false, Bool.not_true, Bool.not_false, Bool.false_eq_true, x1, y1, x2, y2, x3, x4] <;> rfl))
      | ((first | apply W.retM | apply W.endM'); (iterate 2 (try (simp (disch := omega) only [push_cast, simprocAttr, natNe, List.mem_cons, List.not_mem_nil, TyD.isAgg, Nat.add_assoc, List.map_nil, List.length_nil, Bool.and_self, Bool.and_true, Bool.true_and, Bool.false_and, Bool.and_false, Bool.not_true, Bool.not_false, Bool.false_eq_true, x1, y1, x2, y2, x3, x4] <;> rfl))))

    all_goals (show _ = _; rfl)
  exact absurd ⟨h1, h2, h3, h4, h5, g1, g2, by omega, by omega⟩ h
theorem Twice_good (k l : Key) (at_ ap : Int) (b : Blow) (i : Ink) (h : (keyV k = true ∧ keyV l = true ∧ inkV i = true ∧ inF b.miss 0 4095 = true ∧ inF b.dirt 0 4095 = true ∧ k.id ≠ l.id ∧ k.track = l.track ∧ 0 ≤ ap ∧ ap ≤ 60)) (e : Int) (m : Mark)
    (he : (strikesI (k.pat.toNat ||| l.pat.toNat) b.miss.toNat b.dirt.toNat b.shift i = true ∧ e = 0 ∧ m = struckF (k.pat.toNat ||| l.pat.toNat) k.track ⟨at_, ap⟩ b.miss.toNat b.dirt.toNat b.shift) ∨ (strikesI (k.pat.toNat ||| l.pat.toNat) b.miss.toNat b.dirt.toNat b.shift i = false ∧ e = 3 ∧ m = mark0)) : OKv cx 37 [.agg (eKey k), .agg (eKey l), ai at_, ai ap, .agg (eBlow b), .agg (eInk i)] (.tup [.agg (eMark m), ai e]) := by
  have c1 := CheckKey_ok k
  have c2 := CheckKey_ok l
  have c3 := CheckInk_ok i
  have c4 := pins_ok b.miss
  have c5 := pins_ok b.dirt
  obtain ⟨h1, h2, h3, h4, h5, g1, g2, g3, g4⟩ := h
  rw [h1] at c1
  rw [if_pos rfl] at c1
  rw [h2] at c2
  rw [if_pos rfl] at c2
  rw [h3] at c3
  rw [if_pos rfl] at c3
  rw [h4] at c4
  rw [h5] at c5
  have x1 := eq_false g1
  have y1 : (k.id == l.id) = false := by simpa using g1
  have x2 := eq_true g2
  have y2 : (k.track == l.track) = true := by simpa using g2
  have h4' := inF_iff.1 h4
  have h5' := inF_iff.1 h5
  obtain ⟨_, _, k3, k4⟩ := keyV_iff.1 h1
  obtain ⟨_, _, k5, k6⟩ := keyV_iff.1 h2
  obtain ⟨_, _, i3, i4⟩ := inkV_iff.1 h3
  have e1 : (k.pat.toNat : Int) = k.pat := Int.toNat_of_nonneg (by omega)
  have e0 : (l.pat.toNat : Int) = l.pat := Int.toNat_of_nonneg (by omega)
  have e2 : (b.miss.toNat : Int) = b.miss := Int.toNat_of_nonneg h4'.1
  have e3 : (b.dirt.toNat : Int) = b.dirt := Int.toNat_of_nonneg h5'.1
  have a0 := orI (p := k.pat.toNat) (q := l.pat.toNat) (by omega) (by omega)
  rw [e1, e0] at a0
  have hP : (k.pat.toNat ||| l.pat.toNat) < 4096 := or_lt (by omega) (by omega)
  have x3 : (ap < 0) = False := eq_false (by omega)
  have x4 : (ap > 60) = False := eq_false (by omega)
  have c7 : OKv cx 100 [ai ((k.pat.toNat ||| l.pat.toNat : Nat) : Int), ai k.track, .agg (eArc ⟨at_, ap⟩), .agg (eBlow b), .agg (eInk i)] (.tup [.agg (eMark m), ai e]) := by
    obtain ⟨g, rfl, rfl⟩ | ⟨g, rfl, rfl⟩ := he
    · have := struck_good (k.pat.toNat ||| l.pat.toNat) k.track ⟨at_, ap⟩ b.miss.toNat b.dirt.toNat b.shift i hP (by omega) (by omega) ⟨i3, i4⟩ g
      rw [e2, e3] at this
      exact this
    · have := struck_bad (k.pat.toNat ||| l.pat.toNat) k.track ⟨at_, ap⟩ b.miss.toNat b.dirt.toNat b.shift i hP (by omega) (by omega) ⟨i3, i4⟩ g
      rw [e2, e3] at this
      exact this
  clear he
  generalize k.pat.toNat ||| l.pat.toNat = PP at *
  refine OKat.of_bodyM cx_ok (rs := [.cell 12 42, .tmp 13]) Tryd.func37 rfl (by decide +kernel) rfl (by simp [Tryd.ntmps37]) ?_
  simp only [Tryd.ntmps37]
  repeat' first
    | apply AW.seq | apply AW.region | apply AW.ret | apply AW.block | apply AW.skip | apply AW.exit | apply AW.scope | apply AW.label | apply AWL.nil
    | ((first | (apply W.step cx_ok; decide) | apply W.store cx_ok | (apply W.gS; rfl; decide) | apply AW.cond); (simp (disch := omega) only [push_cast, simprocAttr, natNe, List.mem_cons, List.not_mem_nil, TyD.isAgg, Nat.add_assoc, List.map_nil, List.length_nil, Bool.and_self, Bool.and_true, Bool.true_and, Bool.false_and, Bool.and_false, Bool.not_true, Bool.not_false, Bool.false_eq_true, x1, y1, x2, y2, x3, x4, a0] <;> rfl); all_goals try ((with_reducible intro hI); try first | (cases hI; done) | (simp only [INTS, not_true_eq_false] at hI; try first | (exfalso; omega) | (have hT : True := hI; clear hT hI))))
    | ((apply W.callv cx_ok; decide); (iterate 2 (simp (disch := omega) only [push_cast, simprocAttr, natNe, List.mem_cons, List.not_mem_nil, TyD.isAgg, Nat.add_assoc, List.map_nil, List.length_nil, Bool.and_self, Bool.and_true, Bool.true_and, Bool.false_and, Bool.and_false, Bool.not_true, Bool.not_false, Bool.false_eq_true, x1, y1, x2, y2, x3, x4, a0] <;> rfl)); (with_reducible first | exact c1 | exact c2 | exact c3 | exact c4 | exact c5 | exact c7); try first | rfl | (simp (disch := omega) only [push_cast, simprocAttr, natNe, List.mem_cons, List.not_mem_nil, TyD.isAgg, Nat.add_assoc, List.map_nil, List.length_nil, Bool.and_self, Bool.and_true, Bool.true_and, Bool.false_and, Bool.and_false, Bool.not_true, Bool.not_false, Bool.false_eq_true, x1, y1, x2, y2, x3, x4, a0] <;> rfl))
    | ((first | apply W.retM | apply W.endM'); (iterate 2 (try (simp (disch := omega) only [push_cast, simprocAttr, natNe, List.mem_cons, List.not_mem_nil, TyD.isAgg, Nat.add_assoc, List.map_nil, List.length_nil, Bool.and_self, Bool.and_true, Bool.true_and, Bool.false_and, Bool.and_false, Bool.not_true, Bool.not_false, Bool.false_eq_true, x1, y1, x2, y2, x3, x4, a0] <;> rfl))))

  all_goals (show _ = _; rfl)
end Go.Proofs.Ds
