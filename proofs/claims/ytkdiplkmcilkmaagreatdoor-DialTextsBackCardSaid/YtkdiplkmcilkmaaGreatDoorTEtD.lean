/-
  Contracts of functions, proved by going through their code. No conditions.
-/
import Derived.Test.YtkdiplkmcilkmaaGreatDoorTan
import Derived.Test.YtkdiplkmcilkmaaGreatDoorTax
set_option linter.unusedVariables false
set_option linter.unusedSimpArgs false
set_option maxHeartbeats 8000000
set_option maxRecDepth 10000
namespace Go.Proofs.Dz
open Go Go.Pg Go.Proofs Go.Proofs.Ds
theorem RMark_ok (m : Mark) : OKv cx 14 [.agg (eMark m)] (ab (markV m)) := by
  have c1 := RValidArc_ok m.arc
  have c2 := In_ok m.track 0 3
  have c3 := Rpins_ok m.seen
  have c4 := Rpins_ok m.blank
  unfold markV
  cases h1 : validA m.arc with
  | false =>
    rw [h1] at c1
    simp only [Bool.false_and, Bool.and_false, Bool.true_and]
    refine OKat.of_body (rs := [2]) Tryz.func14 rfl (by decide +kernel) rfl (by simp [Tryz.ntmps14]) ?_
    simp only [Tryz.ntmps14]
    repeat' first
      | apply AW.seq | apply AW.region | apply AW.ret | apply AW.block | apply AW.skip | apply AW.exit | apply AW.scope | apply AW.label | apply AWL.nil
      | ((first | (apply W.step cx_ok; decide) | (apply W.gS; rfl; decide) | apply AW.cond); (simp (disch := omega) only [push_cast, simprocAttr, natNe, List.mem_cons, List.not_mem_nil, TyD.isAgg, Nat.add_assoc, List.map_nil, List.length_nil, Bool.and_self, Bool.and_true, Bool.true_and, Bool.false_and, Bool.and_false, Bool.not_true, Bool.not_false, Bool.false_eq_true] <;> rfl); all_goals try ((with_reducible intro hI); try first | (cases hI; done) | (simp only [INTS, not_true_eq_false] at hI; try first | (exfalso; omega) | (have hT : True := hI; clear hT hI))))
      | ((apply W.callv cx_ok; decide); (iterate 2 (simp (disch := omega) only [push_cast, simprocAttr, natNe, List.mem_cons, List.not_mem_nil, TyD.isAgg, Nat.add_assoc, List.map_nil, List.length_nil, Bool.and_self, Bool.and_true, Bool.true_and, Bool.false_and, Bool.and_false, Bool.not_true, Bool.not_false, Bool.false_eq_true] <;> rfl)); (with_reducible first | exact c1); try first | rfl | (simp (disch := omega) only [push_cast, simprocAttr, natNe, List.mem_cons, List.not_mem_nil, TyD.isAgg, Nat.add_assoc, List.map_nil, List.length_nil, Bool.and_self, Bool.and_true, Bool.true_and, Bool.false_and, Bool.and_false, Bool.not_true, Bool.not_false, Bool.false_eq_true] <;> rfl))
      | ((first | apply W.ret1 | apply W.end1); (iterate 2 (try (simp (disch := omega) only [push_cast, simprocAttr, natNe, List.mem_cons, List.not_mem_nil, TyD.isAgg, Nat.add_assoc, List.map_nil, List.length_nil, Bool.and_self, Bool.and_true, Bool.true_and, Bool.false_and, Bool.and_false, Bool.not_true, Bool.not_false, Bool.false_eq_true] <;> rfl))))

    all_goals (show _ = _; rfl)
  | true =>
  rw [h1] at c1
  cases h2 : inF m.track 0 3 with
  | false =>
    rw [h2] at c2
    simp only [Bool.false_and, Bool.and_false, Bool.true_and]
    refine OKat.of_body (rs := [2]) Tryz.func14 rfl (by decide +kernel) rfl (by simp [Tryz.ntmps14]) ?_
    simp only [Tryz.ntmps14]
    repeat' first
      | apply AW.seq | apply AW.region | apply AW.ret | apply AW.block | apply AW.skip | apply AW.exit | apply AW.scope | apply AW.label | apply AWL.nil
      | ((first | (apply W.step cx_ok; decide) | (apply W.gS; rfl; decide) | apply AW.cond); (simp (disch := omega) only [push_cast, simprocAttr, natNe, List.mem_cons, List.not_mem_nil, TyD.isAgg, Nat.add_assoc, List.map_nil, List.length_nil, Bool.and_self, Bool.and_true, Bool.true_and, Bool.false_and, Bool.and_false, Bool.not_true, Bool.not_false, Bool.false_eq_true] <;> rfl); all_goals try ((with_reducible intro hI); try first | (cases hI; done) | (simp only [INTS, not_true_eq_false] at hI; try first | (exfalso; omega) | (have hT : True := hI; clear hT hI))))
      | ((apply W.callv cx_ok; decide); (iterate 2 (simp (disch := omega) only [push_cast, simprocAttr, natNe, List.mem_cons, List.not_mem_nil, TyD.isAgg, Nat.add_assoc, List.map_nil, List.length_nil, Bool.and_self, Bool.and_true, Bool.true_and, Bool.false_and, Bool.and_false, Bool.not_true, Bool.not_false, Bool.false_eq_true] <;> rfl)); (with_reducible first | exact c1 | exact c2); try first | rfl | (simp (disch := omega) only [push_cast, simprocAttr, natNe, List.mem_cons, List.not_mem_nil, TyD.isAgg, Nat.add_assoc, List.map_nil, List.length_nil, Bool.and_self, Bool.and_true, Bool.true_and, Bool.false_and, Bool.and_false, Bool.not_true, Bool.not_false, Bool.false_eq_true] <;> rfl))
      | ((first | apply W.ret1 | apply W.end1); (iterate 2 (try (simp (disch := omega) only [push_cast, simprocAttr, natNe, List.mem_cons, List.not_mem_nil, TyD.isAgg, Nat.add_assoc, List.map_nil, List.length_nil, Bool.and_self, Bool.and_true, Bool.true_and, Bool.false_and, Bool.and_false, Bool.not_true, Bool.not_false, Bool.false_eq_true] <;> rfl))))

    all_goals (show _ = _; rfl)
  | true =>
  rw [h2] at c2
  cases h3 : inF m.seen 0 4095 with
  | false =>
    rw [h3] at c3
    simp only [Bool.false_and, Bool.and_false, Bool.true_and]
    refine OKat.of_body (rs := [2]) Tryz.func14 rfl (by decide +kernel) rfl (by simp [Tryz.ntmps14]) ?_
    simp only [Tryz.ntmps14]
    repeat' first
      | apply AW.seq | apply AW.region | apply AW.ret | apply AW.block | apply AW.skip | apply AW.exit | apply AW.scope | apply AW.label | apply AWL.nil
      | ((first | (apply W.step cx_ok; decide) | (apply W.gS; rfl; decide) | apply AW.cond); (simp (disch := omega) only [push_cast, simprocAttr, natNe, List.mem_cons, List.not_mem_nil, TyD.isAgg, Nat.add_assoc, List.map_nil, List.length_nil, Bool.and_self, Bool.and_true, Bool.true_and, Bool.false_and, Bool.and_false, Bool.not_true, Bool.not_false, Bool.false_eq_true] <;> rfl); all_goals try ((with_reducible intro hI); try first | (cases hI; done) | (simp only [INTS, not_true_eq_false] at hI; try first | (exfalso; omega) | (have hT : True := hI; clear hT hI))))
      | ((apply W.callv cx_ok; decide); (iterate 2 (simp (disch := omega) only [push_cast, simprocAttr, natNe, List.mem_cons, List.not_mem_nil, TyD.isAgg, Nat.add_assoc, List.map_nil, List.length_nil, Bool.and_self, Bool.and_true, Bool.true_and, Bool.false_and, Bool.and_false, Bool.not_true, Bool.not_false, Bool.false_eq_true] <;> rfl)); (with_reducible first | exact c1 | exact c2 | exact c3); try first | rfl | (simp (disch := omega) only [push_cast, simprocAttr, natNe, List.mem_cons, List.not_mem_nil, TyD.isAgg, Nat.add_assoc, List.map_nil, List.length_nil, Bool.and_self, Bool.and_true, Bool.true_and, Bool.false_and, Bool.and_false, Bool.not_true, Bool.not_false, Bool.false_eq_true] <;> rfl))
      | ((first | apply W.ret1 | apply W.end1); (iterate 2 (try (simp (disch := omega) only [push_cast, simprocAttr, natNe, List.mem_cons, List.not_mem_nil, TyD.isAgg, Nat.add_assoc, List.map_nil, List.length_nil, Bool.and_self, Bool.and_true, Bool.true_and, Bool.false_and, Bool.and_false, Bool.not_true, Bool.not_false, Bool.false_eq_true] <;> rfl))))

    all_goals (show _ = _; rfl)
  | true =>
  rw [h3] at c3
  cases h4 : inF m.blank 0 4095 with
  | false =>
    rw [h4] at c4
    simp only [Bool.false_and, Bool.and_false, Bool.true_and]
    refine OKat.of_body (rs := [2]) Tryz.func14 rfl (by decide +kernel) rfl (by simp [Tryz.ntmps14]) ?_
    simp only [Tryz.ntmps14]
    repeat' first
      | apply AW.seq | apply AW.region | apply AW.ret | apply AW.block | apply AW.skip | apply AW.exit | apply AW.scope | apply AW.label | apply AWL.nil
      | ((first | (apply W.step cx_ok; decide) | (apply W.gS; rfl; decide) | apply AW.cond); (simp (disch := omega) only [push_cast, simprocAttr, natNe, List.mem_cons, List.not_mem_nil, TyD.isAgg, Nat.add_assoc, List.map_nil, List.length_nil, Bool.and_self, Bool.and_true, Bool.true_and, Bool.false_and, Bool.and_false, Bool.not_true, Bool.not_false, Bool.false_eq_true] <;> rfl); all_goals try ((with_reducible intro hI); try first | (cases hI; done) | (simp only [INTS, not_true_eq_false] at hI; try first | (exfalso; omega) | (have hT : True := hI; clear hT hI))))
      | ((apply W.callv cx_ok; decide); (iterate 2 (simp (disch := omega) only [push_cast, simprocAttr, natNe, List.mem_cons, List.not_mem_nil, TyD.isAgg, Nat.add_assoc, List.map_nil, List.length_nil, Bool.and_self, Bool.and_true, Bool.true_and, Bool.false_and, Bool.and_false, Bool.not_true, Bool.not_false, Bool.false_eq_true] <;> rfl)); (with_reducible first | exact c1 | exact c2 | exact c3 | exact c4); try first | rfl | (simp (disch := omega) only [push_cast, simprocAttr, natNe, List.mem_cons, List.not_mem_nil, TyD.isAgg, Nat.add_assoc, List.map_nil, List.length_nil, Bool.and_self, Bool.and_true, Bool.true_and, Bool.false_and, Bool.and_false, Bool.not_true, Bool.not_false, Bool.false_eq_true] <;> rfl))
      | ((first | apply W.ret1 | apply W.end1); (iterate 2 (try (simp (disch := omega) only [push_cast, simprocAttr, natNe, List.mem_cons, List.not_mem_nil, TyD.isAgg, Nat.add_assoc, List.map_nil, List.length_nil, Bool.and_self, Bool.and_true, Bool.true_and, Bool.false_and, Bool.and_false, Bool.not_true, Bool.not_false, Bool.false_eq_true] <;> rfl))))

    all_goals (show _ = _; rfl)
  | true =>
  rw [h4] at c4
  have hs := inF_iff.1 h3
  have hb := inF_iff.1 h4
  have e2 : (m.seen.toNat : Int) = m.seen := Int.toNat_of_nonneg hs.1
  have e3 : (m.blank.toNat : Int) = m.blank := Int.toNat_of_nonneg hb.1
  have ha := andI (p := m.seen.toNat) (q := m.blank.toNat) (by omega) (by omega)
  rw [e2, e3] at ha
  obtain ⟨X, hX⟩ : ∃ z, m.seen.toNat &&& m.blank.toNat = z := ⟨_, rfl⟩
  rw [hX] at ha ⊢
  simp only [Bool.true_and]
  by_cases hx : X = 0
  · subst hx
    rw [decide_eq_true rfl]
    refine OKat.of_body (rs := [2]) Tryz.func14 rfl (by decide +kernel) rfl (by simp [Tryz.ntmps14]) ?_
    simp only [Tryz.ntmps14]
    repeat' first
      | apply AW.seq | apply AW.region | apply AW.ret | apply AW.block | apply AW.skip | apply AW.exit | apply AW.scope | apply AW.label | apply AWL.nil
      | ((first | (apply W.step cx_ok; decide) | (apply W.gS; rfl; decide) | apply AW.cond); (simp (disch := omega) only [push_cast, simprocAttr, natNe, List.mem_cons, List.not_mem_nil, TyD.isAgg, Nat.add_assoc, List.map_nil, List.length_nil, Bool.and_self, Bool.and_true, Bool.true_and, Bool.false_and, Bool.and_false, Bool.not_true, Bool.not_false, Bool.false_eq_true, ha, Int.natCast_zero] <;> rfl); all_goals try ((with_reducible intro hI); try first | (cases hI; done) | (simp only [INTS, not_true_eq_false] at hI; try first | (exfalso; omega) | (have hT : True := hI; clear hT hI))))
      | ((apply W.callv cx_ok; decide); (iterate 2 (simp (disch := omega) only [push_cast, simprocAttr, natNe, List.mem_cons, List.not_mem_nil, TyD.isAgg, Nat.add_assoc, List.map_nil, List.length_nil, Bool.and_self, Bool.and_true, Bool.true_and, Bool.false_and, Bool.and_false, Bool.not_true, Bool.not_false, Bool.false_eq_true, ha, Int.natCast_zero] <;> rfl)); (with_reducible first | exact c1 | exact c2 | exact c3 | exact c4); try first | rfl | (simp (disch := omega) only [push_cast, simprocAttr, natNe, List.mem_cons, List.not_mem_nil, TyD.isAgg, Nat.add_assoc, List.map_nil, List.length_nil, Bool.and_self, Bool.and_true, Bool.true_and, Bool.false_and, Bool.and_false, Bool.not_true, Bool.not_false, Bool.false_eq_true, ha, Int.natCast_zero] <;> rfl))
      | ((first | apply W.ret1 | apply W.end1); (iterate 2 (try (simp (disch := omega) only [push_cast, simprocAttr, natNe, List.mem_cons, List.not_mem_nil, TyD.isAgg, Nat.add_assoc, List.map_nil, List.length_nil, Bool.and_self, Bool.and_true, Bool.true_and, Bool.false_and, Bool.and_false, Bool.not_true, Bool.not_false, Bool.false_eq_true, ha, Int.natCast_zero] <;> rfl))))

    all_goals (show _ = _; rfl)
  · have hxF : ((X : Int) = 0) = False := eq_false (by omega)
    have hxB : ((X : Int) == 0) = false := by rw [beq_eq_false_iff_ne]; omega
    rw [decide_eq_false hx]
    refine OKat.of_body (rs := [2]) Tryz.func14 rfl (by decide +kernel) rfl (by simp [Tryz.ntmps14]) ?_
    simp only [Tryz.ntmps14]
    repeat' first
      | apply AW.seq | apply AW.region | apply AW.ret | apply AW.block | apply AW.skip | apply AW.exit | apply AW.scope | apply AW.label | apply AWL.nil
      | ((first | (apply W.step cx_ok; decide) | (apply W.gS; rfl; decide) | apply AW.cond); (simp (disch := omega) only [push_cast, simprocAttr, natNe, List.mem_cons, List.not_mem_nil, TyD.isAgg, Nat.add_assoc, List.map_nil, List.length_nil, Bool.and_self, Bool.and_true, Bool.true_and, Bool.false_and, Bool.and_false, Bool.not_true, Bool.not_false, Bool.false_eq_true, ha, hxF, hxB] <;> rfl); all_goals try ((with_reducible intro hI); try first | (cases hI; done) | (simp only [INTS, not_true_eq_false] at hI; try first | (exfalso; omega) | (have hT : True := hI; clear hT hI))))
      | ((apply W.callv cx_ok; decide); (iterate 2 (simp (disch := omega) only [push_cast, simprocAttr, natNe, List.mem_cons, List.not_mem_nil, TyD.isAgg, Nat.add_assoc, List.map_nil, List.length_nil, Bool.and_self, Bool.and_true, Bool.true_and, Bool.false_and, Bool.and_false, Bool.not_true, Bool.not_false, Bool.false_eq_true, ha, hxF, hxB] <;> rfl)); (with_reducible first | exact c1 | exact c2 | exact c3 | exact c4); try first | rfl | (simp (disch := omega) only [push_cast, simprocAttr, natNe, List.mem_cons, List.not_mem_nil, TyD.isAgg, Nat.add_assoc, List.map_nil, List.length_nil, Bool.and_self, Bool.and_true, Bool.true_and, Bool.false_and, Bool.and_false, Bool.not_true, Bool.not_false, Bool.false_eq_true, ha, hxF, hxB] <;> rfl))
      | ((first | apply W.ret1 | apply W.end1); (iterate 2 (try (simp (disch := omega) only [push_cast, simprocAttr, natNe, List.mem_cons, List.not_mem_nil, TyD.isAgg, Nat.add_assoc, List.map_nil, List.length_nil, Bool.and_self, Bool.and_true, Bool.true_and, Bool.false_and, Bool.and_false, Bool.not_true, Bool.not_false, Bool.false_eq_true, ha, hxF, hxB] <;> rfl))))

    all_goals (show _ = _; rfl)
end Go.Proofs.Dz
