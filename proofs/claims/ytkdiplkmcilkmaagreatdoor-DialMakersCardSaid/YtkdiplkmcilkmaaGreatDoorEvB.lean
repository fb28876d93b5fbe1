/-
  Contracts of functions, proved by going through their code. No conditions.
-/
import Derived.Test.YtkdiplkmcilkmaaGreatDoorEvA
import Derived.Test.YtkdiplkmcilkmaaGreatDoorEsE73
set_option linter.unusedVariables false
set_option linter.unusedSimpArgs false
set_option maxHeartbeats 8000000
set_option maxRecDepth 10000
namespace Go.Proofs.Dz
open Go Go.Pg Go.Proofs Go.Proofs.Ds
theorem SameInts_same (a : List Int) (ha : a.length ≤ 1099511627776) : OKv cx 16 [lInt a, lInt a] (ab true) := by
  refine OKat.of_body (rs := [4]) Tryz.func16 rfl (by decide +kernel) rfl (by simp [Tryz.ntmps16]) ?_
  simp only [Tryz.ntmps16]
  repeat' first
    | apply AW.seq | apply AW.region | apply AW.ret | apply AW.block | apply AW.skip | apply AW.exit | apply AW.scope | apply AW.label | apply AWL.nil | apply D.nil
    | refine W.draw cx_mixed (by decide +kernel) ?_
    | ((first | (apply W.step cx_ok; decide) | (apply D.step cx_ok; decide; decide) | apply AW.cond); (simp (disch := omega) only [push_cast, simprocAttr, natNe, List.mem_cons, List.not_mem_nil, TyD.isAgg, Nat.add_assoc, List.map_nil, List.length_nil, Bool.and_self, Bool.and_true, Bool.true_and, Bool.false_and, Bool.and_false, Bool.not_true, Bool.not_false, Bool.false_eq_true, beq_self_eq_true] <;> rfl); all_goals try ((with_reducible intro hI); try first | (cases hI; done) | (simp only [INTS, not_true_eq_false] at hI; try first | (exfalso; omega) | (have hT : True := hI; clear hT hI))))
    | ((first | apply W.ret1 | apply W.end1); (iterate 2 (try (simp (disch := omega) only [push_cast, simprocAttr, natNe, List.mem_cons, List.not_mem_nil, TyD.isAgg, Nat.add_assoc, List.map_nil, List.length_nil, Bool.and_self, Bool.and_true, Bool.true_and, Bool.false_and, Bool.and_false, Bool.not_true, Bool.not_false, Bool.false_eq_true, beq_self_eq_true] <;> rfl))))

  refine AW.loop (fun n s => ∃ (k : Nat) (rest : List Int), n = rest.length ∧ (a.drop k = rest) ∧ s.tm 0 = lInt a ∧ s.tm 1 = lInt a ∧ s.tm 5 = ai k) (a.length) ⟨0, a, rfl, rfl, ?_, ?_, ?_⟩ ?_
  iterate 3 (first | (simp (disch := omega) only [push_cast, simprocAttr, natNe, List.mem_cons, List.not_mem_nil, TyD.isAgg, Nat.add_assoc, List.map_nil, List.length_nil, Bool.and_self, Bool.and_true, Bool.true_and, Bool.false_and, Bool.and_false, Bool.not_true, Bool.not_false, Bool.false_eq_true, beq_self_eq_true] <;> first | rfl | omega) | omega)
  rintro n1 s1 ⟨k1, rest1, hn1, hp01, hS1⟩
  rcases rest1 with _ | ⟨x, rest1⟩
  · have hk := drop_nil hp01
    repeat' first
      | apply AW.seq | apply AW.region | apply AW.ret | apply AW.block | apply AW.skip | apply AW.exit | apply AW.scope | apply AW.label | apply AWL.nil | apply D.nil
      | refine W.draw cx_mixed (by decide +kernel) ?_
      | ((first | (apply W.step cx_ok; decide) | (apply D.step cx_ok; decide; decide) | apply AW.cond); (simp (disch := omega) only [push_cast, simprocAttr, hS1, natNe, List.mem_cons, List.not_mem_nil, TyD.isAgg, Nat.add_assoc, List.map_nil, List.length_nil, Bool.and_self, Bool.and_true, Bool.true_and, Bool.false_and, Bool.and_false, Bool.not_true, Bool.not_false, Bool.false_eq_true, beq_self_eq_true, hk] <;> rfl); all_goals try ((with_reducible intro hI); try first | (cases hI; done) | (simp only [INTS, not_true_eq_false] at hI; try first | (exfalso; omega) | (have hT : True := hI; clear hT hI))))
      | ((first | apply W.ret1 | apply W.end1); (iterate 2 (try (simp (disch := omega) only [push_cast, simprocAttr, hS1, natNe, List.mem_cons, List.not_mem_nil, TyD.isAgg, Nat.add_assoc, List.map_nil, List.length_nil, Bool.and_self, Bool.and_true, Bool.true_and, Bool.false_and, Bool.and_false, Bool.not_true, Bool.not_false, Bool.false_eq_true, beq_self_eq_true, hk] <;> rfl))))

    all_goals (show _ = _; rfl)
  · obtain ⟨hk, hg, hd', hl', hm', hx⟩ := drop_cons hp01 eInt []
    repeat' first
      | ((first | (apply W.nePair cx_ok; decide) | (apply D.nePair cx_ok; decide; decide)); exact E73; (iterate 2 (simp (disch := omega) only [push_cast, simprocAttr, hS1, natNe, List.mem_cons, List.not_mem_nil, TyD.isAgg, Nat.add_assoc, List.map_nil, List.length_nil, Bool.and_self, Bool.and_true, Bool.true_and, Bool.false_and, Bool.and_false, Bool.not_true, Bool.not_false, Bool.false_eq_true, beq_self_eq_true, hk, hg, hx] <;> rfl)))
      | apply AW.seq | apply AW.region | apply AW.ret | apply AW.block | apply AW.skip | apply AW.exit | apply AW.scope | apply AW.label | apply AWL.nil | apply D.nil
      | refine W.draw cx_mixed (by decide +kernel) ?_
      | ((first | (apply W.step cx_ok; decide) | (apply D.step cx_ok; decide; decide) | apply AW.cond); (simp (disch := omega) only [push_cast, simprocAttr, hS1, natNe, List.mem_cons, List.not_mem_nil, TyD.isAgg, Nat.add_assoc, List.map_nil, List.length_nil, Bool.and_self, Bool.and_true, Bool.true_and, Bool.false_and, Bool.and_false, Bool.not_true, Bool.not_false, Bool.false_eq_true, beq_self_eq_true, hk, hg, hx] <;> rfl); all_goals try ((with_reducible intro hI); try first | (cases hI; done) | (simp only [INTS, not_true_eq_false] at hI; try first | (exfalso; omega) | (have hT : True := hI; clear hT hI))))
      | ((first | apply W.ret1 | apply W.end1); (iterate 2 (try (simp (disch := omega) only [push_cast, simprocAttr, hS1, natNe, List.mem_cons, List.not_mem_nil, TyD.isAgg, Nat.add_assoc, List.map_nil, List.length_nil, Bool.and_self, Bool.and_true, Bool.true_and, Bool.false_and, Bool.and_false, Bool.not_true, Bool.not_false, Bool.false_eq_true, beq_self_eq_true, hk, hg, hx] <;> rfl))))

    all_goals (refine ⟨rest1.length, ?_, k1 + 1, rest1, rfl, hd', ?_, ?_, ?_⟩; ((simp only [List.length_cons] at *; omega)); all_goals first | (simp (disch := omega) only [push_cast, simprocAttr, hS1, hk, hg, hx, natNe, List.mem_cons, List.not_mem_nil, TyD.isAgg, Nat.add_assoc, List.map_nil, List.length_nil, Bool.and_self, Bool.and_true, Bool.true_and, Bool.false_and, Bool.and_false, Bool.not_true, Bool.not_false, Bool.false_eq_true, beq_self_eq_true] <;> first | rfl | omega) | omega)
theorem SamePairs_same (a : List (Int × Int)) (ha : a.length ≤ 1099511627776) : OKv cx 18 [lPair a, lPair a] (ab true) := by
  refine OKat.of_body (rs := [4]) Tryz.func18 rfl (by decide +kernel) rfl (by simp [Tryz.ntmps18]) ?_
  simp only [Tryz.ntmps18]
  repeat' first
    | apply AW.seq | apply AW.region | apply AW.ret | apply AW.block | apply AW.skip | apply AW.exit | apply AW.scope | apply AW.label | apply AWL.nil | apply D.nil
    | refine W.draw cx_mixed (by decide +kernel) ?_
    | ((first | (apply W.step cx_ok; decide) | (apply D.step cx_ok; decide; decide) | apply AW.cond); (simp (disch := omega) only [push_cast, simprocAttr, natNe, List.mem_cons, List.not_mem_nil, TyD.isAgg, Nat.add_assoc, List.map_nil, List.length_nil, Bool.and_self, Bool.and_true, Bool.true_and, Bool.false_and, Bool.and_false, Bool.not_true, Bool.not_false, Bool.false_eq_true, beq_self_eq_true] <;> rfl); all_goals try ((with_reducible intro hI); try first | (cases hI; done) | (simp only [INTS, not_true_eq_false] at hI; try first | (exfalso; omega) | (have hT : True := hI; clear hT hI))))
    | ((first | apply W.ret1 | apply W.end1); (iterate 2 (try (simp (disch := omega) only [push_cast, simprocAttr, natNe, List.mem_cons, List.not_mem_nil, TyD.isAgg, Nat.add_assoc, List.map_nil, List.length_nil, Bool.and_self, Bool.and_true, Bool.true_and, Bool.false_and, Bool.and_false, Bool.not_true, Bool.not_false, Bool.false_eq_true, beq_self_eq_true] <;> rfl))))

  refine AW.loop (fun n s => ∃ (k : Nat) (rest : List (Int × Int)), n = rest.length ∧ (a.drop k = rest) ∧ s.tm 0 = lPair a ∧ s.tm 1 = lPair a ∧ s.tm 5 = ai k) (a.length) ⟨0, a, rfl, rfl, ?_, ?_, ?_⟩ ?_
  iterate 3 (first | (simp (disch := omega) only [push_cast, simprocAttr, natNe, List.mem_cons, List.not_mem_nil, TyD.isAgg, Nat.add_assoc, List.map_nil, List.length_nil, Bool.and_self, Bool.and_true, Bool.true_and, Bool.false_and, Bool.and_false, Bool.not_true, Bool.not_false, Bool.false_eq_true, beq_self_eq_true] <;> first | rfl | omega) | omega)
  rintro n1 s1 ⟨k1, rest1, hn1, hp01, hS1⟩
  rcases rest1 with _ | ⟨x, rest1⟩
  · have hk := drop_nil hp01
    repeat' first
      | apply AW.seq | apply AW.region | apply AW.ret | apply AW.block | apply AW.skip | apply AW.exit | apply AW.scope | apply AW.label | apply AWL.nil | apply D.nil
      | refine W.draw cx_mixed (by decide +kernel) ?_
      | ((first | (apply W.step cx_ok; decide) | (apply D.step cx_ok; decide; decide) | apply AW.cond); (simp (disch := omega) only [push_cast, simprocAttr, hS1, natNe, List.mem_cons, List.not_mem_nil, TyD.isAgg, Nat.add_assoc, List.map_nil, List.length_nil, Bool.and_self, Bool.and_true, Bool.true_and, Bool.false_and, Bool.and_false, Bool.not_true, Bool.not_false, Bool.false_eq_true, beq_self_eq_true, hk] <;> rfl); all_goals try ((with_reducible intro hI); try first | (cases hI; done) | (simp only [INTS, not_true_eq_false] at hI; try first | (exfalso; omega) | (have hT : True := hI; clear hT hI))))
      | ((first | apply W.ret1 | apply W.end1); (iterate 2 (try (simp (disch := omega) only [push_cast, simprocAttr, hS1, natNe, List.mem_cons, List.not_mem_nil, TyD.isAgg, Nat.add_assoc, List.map_nil, List.length_nil, Bool.and_self, Bool.and_true, Bool.true_and, Bool.false_and, Bool.and_false, Bool.not_true, Bool.not_false, Bool.false_eq_true, beq_self_eq_true, hk] <;> rfl))))

    all_goals (show _ = _; rfl)
  · obtain ⟨hk, hg, hd', hl', hm', hx⟩ := drop_cons hp01 ePair []
    repeat' first
      | ((first | (apply W.nePair cx_ok; decide) | (apply D.nePair cx_ok; decide; decide)); exact E73; (iterate 2 (simp (disch := omega) only [push_cast, simprocAttr, hS1, natNe, List.mem_cons, List.not_mem_nil, TyD.isAgg, Nat.add_assoc, List.map_nil, List.length_nil, Bool.and_self, Bool.and_true, Bool.true_and, Bool.false_and, Bool.and_false, Bool.not_true, Bool.not_false, Bool.false_eq_true, beq_self_eq_true, hk, hg, hx] <;> rfl)))
      | apply AW.seq | apply AW.region | apply AW.ret | apply AW.block | apply AW.skip | apply AW.exit | apply AW.scope | apply AW.label | apply AWL.nil | apply D.nil
      | refine W.draw cx_mixed (by decide +kernel) ?_
      | ((first | (apply W.step cx_ok; decide) | (apply D.step cx_ok; decide; decide) | apply AW.cond); (simp (disch := omega) only [push_cast, simprocAttr, hS1, natNe, List.mem_cons, List.not_mem_nil, TyD.isAgg, Nat.add_assoc, List.map_nil, List.length_nil, Bool.and_self, Bool.and_true, Bool.true_and, Bool.false_and, Bool.and_false, Bool.not_true, Bool.not_false, Bool.false_eq_true, beq_self_eq_true, hk, hg, hx] <;> rfl); all_goals try ((with_reducible intro hI); try first | (cases hI; done) | (simp only [INTS, not_true_eq_false] at hI; try first | (exfalso; omega) | (have hT : True := hI; clear hT hI))))
      | ((first | apply W.ret1 | apply W.end1); (iterate 2 (try (simp (disch := omega) only [push_cast, simprocAttr, hS1, natNe, List.mem_cons, List.not_mem_nil, TyD.isAgg, Nat.add_assoc, List.map_nil, List.length_nil, Bool.and_self, Bool.and_true, Bool.true_and, Bool.false_and, Bool.and_false, Bool.not_true, Bool.not_false, Bool.false_eq_true, beq_self_eq_true, hk, hg, hx] <;> rfl))))

    all_goals (refine ⟨rest1.length, ?_, k1 + 1, rest1, rfl, hd', ?_, ?_, ?_⟩; ((simp only [List.length_cons] at *; omega)); all_goals first | (simp (disch := omega) only [push_cast, simprocAttr, hS1, hk, hg, hx, natNe, List.mem_cons, List.not_mem_nil, TyD.isAgg, Nat.add_assoc, List.map_nil, List.length_nil, Bool.and_self, Bool.and_true, Bool.true_and, Bool.false_and, Bool.and_false, Bool.not_true, Bool.not_false, Bool.false_eq_true, beq_self_eq_true] <;> first | rfl | omega) | omega)
theorem Reached_ok (m : Mark) (i : Ink) (hm : markV m = true) (hi : inkV i = true) : OKv cx 42 [.agg (eMark m), .agg (eInk i)] (.lst [eArc (wideF m.arc i.slip)]) := by
  have va := (markV_iff.1 hm).1
  obtain ⟨_, _, i3, i4⟩ := inkV_iff.1 hi
  have ca : checkL [m.arc] = 0 := by unfold checkL; rw [if_neg (by simp), if_pos (by simp [va])]
  have c1 := RGrow_ok [m.arc] i.slip ca ⟨i3, by omega⟩
  have e : growL [m.arc] i.slip = [wideF m.arc i.slip] := by
    unfold growL
    exact arcs_one (wide_valid va i3)
  rw [e] at c1
  have c1' : OKv cx 73 [.lst [eArc m.arc], ai i.slip] (.lst [eArc (wideF m.arc i.slip)]) := c1
  generalize wideF m.arc i.slip = WA at *
  have hf3 : ∀ x, flatA (.v x) = true := fun _ => rfl
  have hf5 : ∀ x y, flatA (.tup [.v x, .v y]) = true := fun _ _ => rfl
  have hf6 : ∀ l, flatA (.lst l) = false := fun _ => rfl
  have hf7 : ∀ l x, flatA (.tup [.lst l, .v x]) = false := fun _ _ => rfl
  refine OKat.of_body (rs := [4]) Tryz.func42 rfl (by decide +kernel) rfl (by simp [Tryz.ntmps42]) ?_
  simp only [Tryz.ntmps42]
  repeat' first
    | apply AW.seq | apply AW.region | apply AW.ret | apply AW.block | apply AW.skip | apply AW.exit | apply AW.scope | apply AW.label | apply AWL.nil
    | ((first | (apply W.step cx_ok; decide) | apply AW.cond); (simp (disch := omega) only [push_cast, simprocAttr, natNe, List.mem_cons, List.not_mem_nil, TyD.isAgg, Nat.add_assoc, List.map_nil, List.length_nil, Bool.and_self, Bool.and_true, Bool.true_and, Bool.false_and, Bool.and_false, Bool.not_true, Bool.not_false, Bool.false_eq_true, hf3, hf5, St.back, rowAt_aftJ, idsL, idsA, List.cons_append, List.nil_append, List.append_nil, hf6, hf7] <;> rfl); all_goals try ((with_reducible intro hI); try first | (cases hI; done) | (simp only [INTS, not_true_eq_false] at hI; try first | (exfalso; omega) | (have hT : True := hI; clear hT hI))))
    | ((apply W.callv cx_ok; decide); (iterate 2 (simp (disch := omega) only [push_cast, simprocAttr, natNe, List.mem_cons, List.not_mem_nil, TyD.isAgg, Nat.add_assoc, List.map_nil, List.length_nil, Bool.and_self, Bool.and_true, Bool.true_and, Bool.false_and, Bool.and_false, Bool.not_true, Bool.not_false, Bool.false_eq_true, hf3, hf5, St.back, rowAt_aftJ, idsL, idsA, List.cons_append, List.nil_append, List.append_nil, hf6, hf7] <;> rfl)); (with_reducible first | exact c1'); try first | rfl | (simp (disch := omega) only [push_cast, simprocAttr, natNe, List.mem_cons, List.not_mem_nil, TyD.isAgg, Nat.add_assoc, List.map_nil, List.length_nil, Bool.and_self, Bool.and_true, Bool.true_and, Bool.false_and, Bool.and_false, Bool.not_true, Bool.not_false, Bool.false_eq_true, hf3, hf5, St.back, rowAt_aftJ, idsL, idsA, List.cons_append, List.nil_append, List.append_nil, hf6, hf7] <;> rfl))
    | ((first | apply W.ret1 | apply W.end1); (iterate 2 (try (simp (disch := omega) only [push_cast, simprocAttr, natNe, List.mem_cons, List.not_mem_nil, TyD.isAgg, Nat.add_assoc, List.map_nil, List.length_nil, Bool.and_self, Bool.and_true, Bool.true_and, Bool.false_and, Bool.and_false, Bool.not_true, Bool.not_false, Bool.false_eq_true, hf3, hf5, St.back, rowAt_aftJ, idsL, idsA, List.cons_append, List.nil_append, List.append_nil, hf6, hf7] <;> rfl))))

  all_goals (show _ = _; rfl)
theorem RAngles_bad (k : Key) (m : Mark) (i : Ink) (h : ¬ (keyV k = true ∧ markV m = true ∧ inkV i = true)) : OKv cx 11 [.agg (eKey k), .agg (eMark m), .agg (eInk i)] (.tup [.lst [], ai 1]) := by
  have c1 := Key_ok k
  have c2 := RMark_ok m
  have c3 := Ink_ok i
  have hf3 : ∀ x, flatA (.v x) = true := fun _ => rfl
  have hf5 : ∀ x y, flatA (.tup [.v x, .v y]) = true := fun _ _ => rfl
  have hf6 : ∀ l, flatA (.lst l) = false := fun _ => rfl
  have hf7 : ∀ l x, flatA (.tup [.lst l, .v x]) = false := fun _ _ => rfl
  cases h1 : keyV k with
  | false =>
    rw [h1] at c1
    refine OKat.of_body (rs := [6, 7]) Tryz.func11 rfl (by decide +kernel) rfl (by simp [Tryz.ntmps11]) ?_
    simp only [Tryz.ntmps11]
    repeat' first
      | apply AW.seq | apply AW.region | apply AW.ret | apply AW.block | apply AW.skip | apply AW.exit | apply AW.scope | apply AW.label | apply AWL.nil
      | ((first | (apply W.step cx_ok; decide) | (apply W.gS; rfl; decide) | apply AW.cond); (simp (disch := omega) only [push_cast, simprocAttr, natNe, List.mem_cons, List.not_mem_nil, TyD.isAgg, Nat.add_assoc, List.map_nil, List.length_nil, Bool.and_self, Bool.and_true, Bool.true_and, Bool.false_and, Bool.and_false, Bool.not_true, Bool.not_false, Bool.false_eq_true, hf3, hf5, St.back, rowAt_aftJ, idsL, idsA, List.cons_append, List.nil_append, List.append_nil, hf6, hf7] <;> rfl); all_goals try ((with_reducible intro hI); try first | (cases hI; done) | (simp only [INTS, not_true_eq_false] at hI; try first | (exfalso; omega) | (have hT : True := hI; clear hT hI))))
      | ((apply W.callv cx_ok; decide); (iterate 2 (simp (disch := omega) only [push_cast, simprocAttr, natNe, List.mem_cons, List.not_mem_nil, TyD.isAgg, Nat.add_assoc, List.map_nil, List.length_nil, Bool.and_self, Bool.and_true, Bool.true_and, Bool.false_and, Bool.and_false, Bool.not_true, Bool.not_false, Bool.false_eq_true, hf3, hf5, St.back, rowAt_aftJ, idsL, idsA, List.cons_append, List.nil_append, List.append_nil, hf6, hf7] <;> rfl)); (with_reducible first | exact c1 | exact c2 | exact c3); try first | rfl | (simp (disch := omega) only [push_cast, simprocAttr, natNe, List.mem_cons, List.not_mem_nil, TyD.isAgg, Nat.add_assoc, List.map_nil, List.length_nil, Bool.and_self, Bool.and_true, Bool.true_and, Bool.false_and, Bool.and_false, Bool.not_true, Bool.not_false, Bool.false_eq_true, hf3, hf5, St.back, rowAt_aftJ, idsL, idsA, List.cons_append, List.nil_append, List.append_nil, hf6, hf7] <;> rfl))
      | ((first | apply W.ret2 | apply W.end2); (iterate 2 (try (simp (disch := omega) only [push_cast, simprocAttr, natNe, List.mem_cons, List.not_mem_nil, TyD.isAgg, Nat.add_assoc, List.map_nil, List.length_nil, Bool.and_self, Bool.and_true, Bool.true_and, Bool.false_and, Bool.and_false, Bool.not_true, Bool.not_false, Bool.false_eq_true, hf3, hf5, St.back, rowAt_aftJ, idsL, idsA, List.cons_append, List.nil_append, List.append_nil, hf6, hf7] <;> rfl))))

    all_goals (show _ = _; rfl)
  | true =>
  rw [h1] at c1
  cases h2 : markV m with
  | false =>
    rw [h2] at c2
    refine OKat.of_body (rs := [6, 7]) Tryz.func11 rfl (by decide +kernel) rfl (by simp [Tryz.ntmps11]) ?_
    simp only [Tryz.ntmps11]
    repeat' first
      | apply AW.seq | apply AW.region | apply AW.ret | apply AW.block | apply AW.skip | apply AW.exit | apply AW.scope | apply AW.label | apply AWL.nil
      | ((first | (apply W.step cx_ok; decide) | (apply W.gS; rfl; decide) | apply AW.cond); (simp (disch := omega) only [push_cast, simprocAttr, natNe, List.mem_cons, List.not_mem_nil, TyD.isAgg, Nat.add_assoc, List.map_nil, List.length_nil, Bool.and_self, Bool.and_true, Bool.true_and, Bool.false_and, Bool.and_false, Bool.not_true, Bool.not_false, Bool.false_eq_true, hf3, hf5, St.back, rowAt_aftJ, idsL, idsA, List.cons_append, List.nil_append, List.append_nil, hf6, hf7] <;> rfl); all_goals try ((with_reducible intro hI); try first | (cases hI; done) | (simp only [INTS, not_true_eq_false] at hI; try first | (exfalso; omega) | (have hT : True := hI; clear hT hI))))
      | ((apply W.callv cx_ok; decide); (iterate 2 (simp (disch := omega) only [push_cast, simprocAttr, natNe, List.mem_cons, List.not_mem_nil, TyD.isAgg, Nat.add_assoc, List.map_nil, List.length_nil, Bool.and_self, Bool.and_true, Bool.true_and, Bool.false_and, Bool.and_false, Bool.not_true, Bool.not_false, Bool.false_eq_true, hf3, hf5, St.back, rowAt_aftJ, idsL, idsA, List.cons_append, List.nil_append, List.append_nil, hf6, hf7] <;> rfl)); (with_reducible first | exact c1 | exact c2 | exact c3); try first | rfl | (simp (disch := omega) only [push_cast, simprocAttr, natNe, List.mem_cons, List.not_mem_nil, TyD.isAgg, Nat.add_assoc, List.map_nil, List.length_nil, Bool.and_self, Bool.and_true, Bool.true_and, Bool.false_and, Bool.and_false, Bool.not_true, Bool.not_false, Bool.false_eq_true, hf3, hf5, St.back, rowAt_aftJ, idsL, idsA, List.cons_append, List.nil_append, List.append_nil, hf6, hf7] <;> rfl))
      | ((first | apply W.ret2 | apply W.end2); (iterate 2 (try (simp (disch := omega) only [push_cast, simprocAttr, natNe, List.mem_cons, List.not_mem_nil, TyD.isAgg, Nat.add_assoc, List.map_nil, List.length_nil, Bool.and_self, Bool.and_true, Bool.true_and, Bool.false_and, Bool.and_false, Bool.not_true, Bool.not_false, Bool.false_eq_true, hf3, hf5, St.back, rowAt_aftJ, idsL, idsA, List.cons_append, List.nil_append, List.append_nil, hf6, hf7] <;> rfl))))

    all_goals (show _ = _; rfl)
  | true =>
  rw [h2] at c2
  cases h3 : inkV i with
  | false =>
    rw [h3] at c3
    refine OKat.of_body (rs := [6, 7]) Tryz.func11 rfl (by decide +kernel) rfl (by simp [Tryz.ntmps11]) ?_
    simp only [Tryz.ntmps11]
    repeat' first
      | apply AW.seq | apply AW.region | apply AW.ret | apply AW.block | apply AW.skip | apply AW.exit | apply AW.scope | apply AW.label | apply AWL.nil
      | ((first | (apply W.step cx_ok; decide) | (apply W.gS; rfl; decide) | apply AW.cond); (simp (disch := omega) only [push_cast, simprocAttr, natNe, List.mem_cons, List.not_mem_nil, TyD.isAgg, Nat.add_assoc, List.map_nil, List.length_nil, Bool.and_self, Bool.and_true, Bool.true_and, Bool.false_and, Bool.and_false, Bool.not_true, Bool.not_false, Bool.false_eq_true, hf3, hf5, St.back, rowAt_aftJ, idsL, idsA, List.cons_append, List.nil_append, List.append_nil, hf6, hf7] <;> rfl); all_goals try ((with_reducible intro hI); try first | (cases hI; done) | (simp only [INTS, not_true_eq_false] at hI; try first | (exfalso; omega) | (have hT : True := hI; clear hT hI))))
      | ((apply W.callv cx_ok; decide); (iterate 2 (simp (disch := omega) only [push_cast, simprocAttr, natNe, List.mem_cons, List.not_mem_nil, TyD.isAgg, Nat.add_assoc, List.map_nil, List.length_nil, Bool.and_self, Bool.and_true, Bool.true_and, Bool.false_and, Bool.and_false, Bool.not_true, Bool.not_false, Bool.false_eq_true, hf3, hf5, St.back, rowAt_aftJ, idsL, idsA, List.cons_append, List.nil_append, List.append_nil, hf6, hf7] <;> rfl)); (with_reducible first | exact c1 | exact c2 | exact c3); try first | rfl | (simp (disch := omega) only [push_cast, simprocAttr, natNe, List.mem_cons, List.not_mem_nil, TyD.isAgg, Nat.add_assoc, List.map_nil, List.length_nil, Bool.and_self, Bool.and_true, Bool.true_and, Bool.false_and, Bool.and_false, Bool.not_true, Bool.not_false, Bool.false_eq_true, hf3, hf5, St.back, rowAt_aftJ, idsL, idsA, List.cons_append, List.nil_append, List.append_nil, hf6, hf7] <;> rfl))
      | ((first | apply W.ret2 | apply W.end2); (iterate 2 (try (simp (disch := omega) only [push_cast, simprocAttr, natNe, List.mem_cons, List.not_mem_nil, TyD.isAgg, Nat.add_assoc, List.map_nil, List.length_nil, Bool.and_self, Bool.and_true, Bool.true_and, Bool.false_and, Bool.and_false, Bool.not_true, Bool.not_false, Bool.false_eq_true, hf3, hf5, St.back, rowAt_aftJ, idsL, idsA, List.cons_append, List.nil_append, List.append_nil, hf6, hf7] <;> rfl))))

    all_goals (show _ = _; rfl)
  | true =>
  rw [h3] at c3
  exact absurd ⟨h1, h2, h3⟩ h
theorem RAngles_good (k : Key) (m : Mark) (i : Ink) (h1 : keyV k = true) (h2 : markV m = true) (h3 : inkV i = true) : OKv cx 11 [.agg (eKey k), .agg (eMark m), .agg (eInk i)] (.tup [lArc (if madeF k m i = true then [wideF m.arc i.slip] else []), ai 0]) := by
  have c1 := Key_ok k
  have c2 := RMark_ok m
  have c3 := Ink_ok i
  rw [h1] at c1
  rw [h2] at c2
  rw [h3] at c3
  obtain ⟨_, _, k3, k4⟩ := keyV_iff.1 h1
  obtain ⟨_, _, ms, mb, _⟩ := markV_iff.1 h2
  have c4 := Of_ok k m i ⟨by omega, k4⟩ ms mb
  have c5 := Reached_ok m i h2 h3
  have hf3 : ∀ x, flatA (.v x) = true := fun _ => rfl
  have hf5 : ∀ x y, flatA (.tup [.v x, .v y]) = true := fun _ _ => rfl
  have hf6 : ∀ l, flatA (.lst l) = false := fun _ => rfl
  have hf7 : ∀ l x, flatA (.tup [.lst l, .v x]) = false := fun _ _ => rfl
  generalize wideF m.arc i.slip = WA at *
  cases hb : madeF k m i with
  | true =>
    rw [hb] at c4
    rw [if_pos rfl]
    refine OKat.of_body (rs := [6, 7]) Tryz.func11 rfl (by decide +kernel) rfl (by simp [Tryz.ntmps11]) ?_
    simp only [Tryz.ntmps11]
    repeat' first
      | apply AW.seq | apply AW.region | apply AW.ret | apply AW.block | apply AW.skip | apply AW.exit | apply AW.scope | apply AW.label | apply AWL.nil
      | ((first | (apply W.step cx_ok; decide) | (apply W.gS; rfl; decide) | apply AW.cond); (simp (disch := omega) only [push_cast, simprocAttr, natNe, List.mem_cons, List.not_mem_nil, TyD.isAgg, Nat.add_assoc, List.map_nil, List.length_nil, Bool.and_self, Bool.and_true, Bool.true_and, Bool.false_and, Bool.and_false, Bool.not_true, Bool.not_false, Bool.false_eq_true, hf3, hf5, St.back, rowAt_aftJ, idsL, idsA, List.cons_append, List.nil_append, List.append_nil, hf6, hf7, List.map_cons] <;> rfl); all_goals try ((with_reducible intro hI); try first | (cases hI; done) | (simp only [INTS, not_true_eq_false] at hI; try first | (exfalso; omega) | (have hT : True := hI; clear hT hI))))
      | ((apply W.callv cx_ok; decide); (iterate 2 (simp (disch := omega) only [push_cast, simprocAttr, natNe, List.mem_cons, List.not_mem_nil, TyD.isAgg, Nat.add_assoc, List.map_nil, List.length_nil, Bool.and_self, Bool.and_true, Bool.true_and, Bool.false_and, Bool.and_false, Bool.not_true, Bool.not_false, Bool.false_eq_true, hf3, hf5, St.back, rowAt_aftJ, idsL, idsA, List.cons_append, List.nil_append, List.append_nil, hf6, hf7, List.map_cons] <;> rfl)); (with_reducible first | exact c1 | exact c2 | exact c3 | exact c4 | exact c5); try first | rfl | (simp (disch := omega) only [push_cast, simprocAttr, natNe, List.mem_cons, List.not_mem_nil, TyD.isAgg, Nat.add_assoc, List.map_nil, List.length_nil, Bool.and_self, Bool.and_true, Bool.true_and, Bool.false_and, Bool.and_false, Bool.not_true, Bool.not_false, Bool.false_eq_true, hf3, hf5, St.back, rowAt_aftJ, idsL, idsA, List.cons_append, List.nil_append, List.append_nil, hf6, hf7, List.map_cons] <;> rfl))
      | ((first | apply W.ret2 | apply W.end2); (iterate 2 (try (simp (disch := omega) only [push_cast, simprocAttr, natNe, List.mem_cons, List.not_mem_nil, TyD.isAgg, Nat.add_assoc, List.map_nil, List.length_nil, Bool.and_self, Bool.and_true, Bool.true_and, Bool.false_and, Bool.and_false, Bool.not_true, Bool.not_false, Bool.false_eq_true, hf3, hf5, St.back, rowAt_aftJ, idsL, idsA, List.cons_append, List.nil_append, List.append_nil, hf6, hf7, List.map_cons] <;> rfl))))

    all_goals (show _ = _; rfl)
  | false =>
    rw [hb] at c4
    rw [if_neg (by decide)]
    refine OKat.of_body (rs := [6, 7]) Tryz.func11 rfl (by decide +kernel) rfl (by simp [Tryz.ntmps11]) ?_
    simp only [Tryz.ntmps11]
    repeat' first
      | apply AW.seq | apply AW.region | apply AW.ret | apply AW.block | apply AW.skip | apply AW.exit | apply AW.scope | apply AW.label | apply AWL.nil
      | ((first | (apply W.step cx_ok; decide) | (apply W.gS; rfl; decide) | apply AW.cond); (simp (disch := omega) only [push_cast, simprocAttr, natNe, List.mem_cons, List.not_mem_nil, TyD.isAgg, Nat.add_assoc, List.map_nil, List.length_nil, Bool.and_self, Bool.and_true, Bool.true_and, Bool.false_and, Bool.and_false, Bool.not_true, Bool.not_false, Bool.false_eq_true, hf3, hf5, St.back, rowAt_aftJ, idsL, idsA, List.cons_append, List.nil_append, List.append_nil, hf6, hf7] <;> rfl); all_goals try ((with_reducible intro hI); try first | (cases hI; done) | (simp only [INTS, not_true_eq_false] at hI; try first | (exfalso; omega) | (have hT : True := hI; clear hT hI))))
      | ((apply W.callv cx_ok; decide); (iterate 2 (simp (disch := omega) only [push_cast, simprocAttr, natNe, List.mem_cons, List.not_mem_nil, TyD.isAgg, Nat.add_assoc, List.map_nil, List.length_nil, Bool.and_self, Bool.and_true, Bool.true_and, Bool.false_and, Bool.and_false, Bool.not_true, Bool.not_false, Bool.false_eq_true, hf3, hf5, St.back, rowAt_aftJ, idsL, idsA, List.cons_append, List.nil_append, List.append_nil, hf6, hf7] <;> rfl)); (with_reducible first | exact c1 | exact c2 | exact c3 | exact c4); try first | rfl | (simp (disch := omega) only [push_cast, simprocAttr, natNe, List.mem_cons, List.not_mem_nil, TyD.isAgg, Nat.add_assoc, List.map_nil, List.length_nil, Bool.and_self, Bool.and_true, Bool.true_and, Bool.false_and, Bool.and_false, Bool.not_true, Bool.not_false, Bool.false_eq_true, hf3, hf5, St.back, rowAt_aftJ, idsL, idsA, List.cons_append, List.nil_append, List.append_nil, hf6, hf7] <;> rfl))
      | ((first | apply W.ret2 | apply W.end2); (iterate 2 (try (simp (disch := omega) only [push_cast, simprocAttr, natNe, List.mem_cons, List.not_mem_nil, TyD.isAgg, Nat.add_assoc, List.map_nil, List.length_nil, Bool.and_self, Bool.and_true, Bool.true_and, Bool.false_and, Bool.and_false, Bool.not_true, Bool.not_false, Bool.false_eq_true, hf3, hf5, St.back, rowAt_aftJ, idsL, idsA, List.cons_append, List.nil_append, List.append_nil, hf6, hf7] <;> rfl))))

    all_goals (show _ = _; rfl)
theorem angles_both (k : Key) (m : Mark) (i : Ink) : ∃ (AL : List Arc) (E : Int), OKv cx 10 [.agg (eKey k), .agg (eMark m), .agg (eInk i)] (.tup [lArc AL, ai E]) ∧ OKv cx 11 [.agg (eKey k), .agg (eMark m), .agg (eInk i)] (.tup [lArc AL, ai E]) ∧ AL.length ≤ 1 := by
  by_cases h : keyV k = true ∧ markV m = true ∧ inkV i = true
  · exact ⟨_, _, Angles_good k m i h.1 h.2.1 h.2.2, RAngles_good k m i h.1 h.2.1 h.2.2, by split <;> simp⟩
  · exact ⟨[], 1, Angles_bad k m i h, RAngles_bad k m i h, by simp⟩
end Go.Proofs.Dz
