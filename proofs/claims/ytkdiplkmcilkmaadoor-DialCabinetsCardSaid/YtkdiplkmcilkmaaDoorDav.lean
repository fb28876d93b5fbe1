/-
  Contracts of functions, proved by going through their code. No conditions.
-/
import Derived.Test.YtkdiplkmcilkmaaDoorDam
import Derived.Test.YtkdiplkmcilkmaaDoorDan
set_option linter.unusedVariables false
set_option linter.unusedSimpArgs false
set_option maxHeartbeats 8000000
set_option maxRecDepth 10000
namespace Go.Proofs.Ds
open Go Go.Pg Go.Proofs
theorem wide_ok (x : Arc) (n : Int) (hv : validA x = true) (hn : 0 ≤ n ∧ n ≤ 43200) : OKv cx 104 [.agg (eArc x), ai n] (.agg (eArc (wideF x n))) := by
  obtain ⟨v1, v2, v3, v4, v5⟩ := validA_iff.1 hv
  have c3 := RAngle_ok (x.from_ - n)
  unfold wideF
  by_cases hl : 43199 ≤ x.len + 2 * n
  · rw [if_pos hl]
    refine OKat.of_bodyM cx_ok (rs := [.cell 4 35]) Tryd.func104 rfl (by decide +kernel) rfl (by simp [Tryd.ntmps104]) ?_
    simp only [Tryd.ntmps104]
    repeat' first
      | apply AW.seq | apply AW.region | apply AW.ret | apply AW.block | apply AW.skip | apply AW.exit | apply AW.scope | apply AW.label | apply AWL.nil | apply D.nil
      | refine W.draw cx_mixed (by decide +kernel) ?_
      | ((first | (apply W.step cx_ok; decide) | (apply D.step cx_ok; decide; decide) | apply W.store cx_ok | apply AW.cond); (simp (disch := omega) only [push_cast, simprocAttr, Bool.and_self, Bool.and_true, Bool.true_and, Bool.false_and, Bool.and_false, Bool.not_true, Bool.not_false, Bool.false_eq_true, hl] <;> rfl); all_goals try ((with_reducible intro hI); try first | (cases hI; done) | (simp only [INTS, not_true_eq_false] at hI; try first | (exfalso; omega) | (have hT : True := hI; clear hT hI))))
      | ((first | (apply W.callv cx_ok; decide) | (apply D.callv cx_ok; decide; decide)); (iterate 2 (simp (disch := omega) only [push_cast, simprocAttr, Bool.and_self, Bool.and_true, Bool.true_and, Bool.false_and, Bool.and_false, Bool.not_true, Bool.not_false, Bool.false_eq_true, hl] <;> rfl)); (with_reducible first | exact c3); try first | rfl | (simp (disch := omega) only [push_cast, simprocAttr, Bool.and_self, Bool.and_true, Bool.true_and, Bool.false_and, Bool.and_false, Bool.not_true, Bool.not_false, Bool.false_eq_true, hl] <;> rfl))
      | ((first | apply W.retM | apply W.endM'); (iterate 2 (try (simp (disch := omega) only [push_cast, simprocAttr, Bool.and_self, Bool.and_true, Bool.true_and, Bool.false_and, Bool.and_false, Bool.not_true, Bool.not_false, Bool.false_eq_true, hl] <;> rfl))))

    all_goals (show _ = _; rfl)
  · rw [if_neg hl]
    refine OKat.of_bodyM cx_ok (rs := [.cell 4 35]) Tryd.func104 rfl (by decide +kernel) rfl (by simp [Tryd.ntmps104]) ?_
    simp only [Tryd.ntmps104]
    repeat' first
      | apply AW.seq | apply AW.region | apply AW.ret | apply AW.block | apply AW.skip | apply AW.exit | apply AW.scope | apply AW.label | apply AWL.nil | apply D.nil
      | refine AW.draw (id := 3) cx_mixed [11] [] [1] 0 (by decide +kernel) ?_
      | refine W.draw cx_mixed (by decide +kernel) ?_
      | ((first | (apply W.step cx_ok; decide) | (apply D.step cx_ok; decide; decide) | apply W.store cx_ok | apply AW.cond); (simp (disch := omega) only [push_cast, simprocAttr, Bool.and_self, Bool.and_true, Bool.true_and, Bool.false_and, Bool.and_false, Bool.not_true, Bool.not_false, Bool.false_eq_true, hl] <;> rfl); all_goals try ((with_reducible intro hI); try first | (cases hI; done) | (simp only [INTS, not_true_eq_false] at hI; try first | (exfalso; omega) | (have hT : True := hI; clear hT hI))))
      | ((first | (apply D.store cx_ok; decide) | (apply D.stept cx_ok; decide; decide) | (apply D.stepm cx_ok; decide; decide)); (simp (disch := omega) only [push_cast, simprocAttr, Bool.and_self, Bool.and_true, Bool.true_and, Bool.false_and, Bool.and_false, Bool.not_true, Bool.not_false, Bool.false_eq_true, hl] <;> rfl); try first | exact .inl rfl | exact .inr (by simp))
      | ((apply D.alloct cx_ok; decide; decide); (simp (disch := omega) only [push_cast, simprocAttr, Bool.and_self, Bool.and_true, Bool.true_and, Bool.false_and, Bool.and_false, Bool.not_true, Bool.not_false, Bool.false_eq_true, hl] <;> rfl); first | exact .inl rfl | exact .inr (by simp))
      | ((first | (apply W.callv cx_ok; decide) | (apply D.callv cx_ok; decide; decide) | (apply D.callvt cx_ok; decide; decide)); (iterate 2 (simp (disch := omega) only [push_cast, simprocAttr, Bool.and_self, Bool.and_true, Bool.true_and, Bool.false_and, Bool.and_false, Bool.not_true, Bool.not_false, Bool.false_eq_true, hl] <;> rfl)); (with_reducible first | exact c3); try first | rfl | (simp (disch := omega) only [push_cast, simprocAttr, Bool.and_self, Bool.and_true, Bool.true_and, Bool.false_and, Bool.and_false, Bool.not_true, Bool.not_false, Bool.false_eq_true, hl] <;> rfl))
      | ((first | apply W.retM | apply W.endM'); (iterate 2 (try (simp (disch := omega) only [push_cast, simprocAttr, Bool.and_self, Bool.and_true, Bool.true_and, Bool.false_and, Bool.and_false, Bool.not_true, Bool.not_false, Bool.false_eq_true, hl] <;> rfl))))

    all_goals (show _ = _; rfl)
theorem grown_ok (x : Arc) (n : Int) (hv : validA x = true) (hn : 0 ≤ n ∧ n ≤ 43200) : OKv cx 97 [.agg (eArc x), ai n] (.agg (eArc (wideF x n))) := by
  obtain ⟨v1, v2, v3, v4, v5⟩ := validA_iff.1 hv
  have c3 := Angle_ok (x.from_ - n)
  unfold wideF
  by_cases hg : 43200 ≤ n
  · rw [if_pos (by omega)]
    refine OKat.of_bodyM cx_ok (rs := [.cell 4 35]) Tryd.func97 rfl (by decide +kernel) rfl (by simp [Tryd.ntmps97]) ?_
    simp only [Tryd.ntmps97]
    repeat' first
      | apply AW.seq | apply AW.region | apply AW.ret | apply AW.block | apply AW.skip | apply AW.exit | apply AW.scope | apply AW.label | apply AWL.nil | apply D.nil
      | refine W.draw cx_mixed (by decide +kernel) ?_
      | ((first | (apply W.step cx_ok; decide) | (apply D.step cx_ok; decide; decide) | apply W.store cx_ok | (apply W.gS; rfl; decide) | (apply D.gS; rfl; decide; decide) | apply AW.cond); (simp (disch := omega) only [push_cast, simprocAttr, Bool.and_self, Bool.and_true, Bool.true_and, Bool.false_and, Bool.and_false, Bool.not_true, Bool.not_false, Bool.false_eq_true, hg] <;> rfl); all_goals try ((with_reducible intro hI); try first | (cases hI; done) | (simp only [INTS, not_true_eq_false] at hI; try first | (exfalso; omega) | (have hT : True := hI; clear hT hI))))
      | ((first | (apply W.callv cx_ok; decide) | (apply D.callv cx_ok; decide; decide)); (iterate 2 (simp (disch := omega) only [push_cast, simprocAttr, Bool.and_self, Bool.and_true, Bool.true_and, Bool.false_and, Bool.and_false, Bool.not_true, Bool.not_false, Bool.false_eq_true, hg] <;> rfl)); (with_reducible first | exact c3); try first | rfl | (simp (disch := omega) only [push_cast, simprocAttr, Bool.and_self, Bool.and_true, Bool.true_and, Bool.false_and, Bool.and_false, Bool.not_true, Bool.not_false, Bool.false_eq_true, hg] <;> rfl))
      | ((first | apply W.retM | apply W.endM'); (iterate 2 (try (simp (disch := omega) only [push_cast, simprocAttr, Bool.and_self, Bool.and_true, Bool.true_and, Bool.false_and, Bool.and_false, Bool.not_true, Bool.not_false, Bool.false_eq_true, hg] <;> rfl))))

    all_goals (show _ = _; rfl)
  by_cases hl : 43199 ≤ x.len + 2 * n
  · rw [if_pos hl]
    refine OKat.of_bodyM cx_ok (rs := [.cell 4 35]) Tryd.func97 rfl (by decide +kernel) rfl (by simp [Tryd.ntmps97]) ?_
    simp only [Tryd.ntmps97]
    repeat' first
      | apply AW.seq | apply AW.region | apply AW.ret | apply AW.block | apply AW.skip | apply AW.exit | apply AW.scope | apply AW.label | apply AWL.nil | apply D.nil
      | refine W.draw cx_mixed (by decide +kernel) ?_
      | ((first | (apply W.step cx_ok; decide) | (apply D.step cx_ok; decide; decide) | apply W.store cx_ok | (apply W.gS; rfl; decide) | (apply D.gS; rfl; decide; decide) | apply AW.cond); (simp (disch := omega) only [push_cast, simprocAttr, Bool.and_self, Bool.and_true, Bool.true_and, Bool.false_and, Bool.and_false, Bool.not_true, Bool.not_false, Bool.false_eq_true, hl, hg] <;> rfl); all_goals try ((with_reducible intro hI); try first | (cases hI; done) | (simp only [INTS, not_true_eq_false] at hI; try first | (exfalso; omega) | (have hT : True := hI; clear hT hI))))
      | ((first | (apply W.callv cx_ok; decide) | (apply D.callv cx_ok; decide; decide)); (iterate 2 (simp (disch := omega) only [push_cast, simprocAttr, Bool.and_self, Bool.and_true, Bool.true_and, Bool.false_and, Bool.and_false, Bool.not_true, Bool.not_false, Bool.false_eq_true, hl, hg] <;> rfl)); (with_reducible first | exact c3); try first | rfl | (simp (disch := omega) only [push_cast, simprocAttr, Bool.and_self, Bool.and_true, Bool.true_and, Bool.false_and, Bool.and_false, Bool.not_true, Bool.not_false, Bool.false_eq_true, hl, hg] <;> rfl))
      | ((first | apply W.retM | apply W.endM'); (iterate 2 (try (simp (disch := omega) only [push_cast, simprocAttr, Bool.and_self, Bool.and_true, Bool.true_and, Bool.false_and, Bool.and_false, Bool.not_true, Bool.not_false, Bool.false_eq_true, hl, hg] <;> rfl))))

    all_goals (show _ = _; rfl)
  · rw [if_neg hl]
    refine OKat.of_bodyM cx_ok (rs := [.cell 4 35]) Tryd.func97 rfl (by decide +kernel) rfl (by simp [Tryd.ntmps97]) ?_
    simp only [Tryd.ntmps97]
    repeat' first
      | apply AW.seq | apply AW.region | apply AW.ret | apply AW.block | apply AW.skip | apply AW.exit | apply AW.scope | apply AW.label | apply AWL.nil | apply D.nil
      | refine AW.draw (id := 3) cx_mixed [11] [] [1] 0 (by decide +kernel) ?_
      | refine W.draw cx_mixed (by decide +kernel) ?_
      | ((first | (apply W.step cx_ok; decide) | (apply D.step cx_ok; decide; decide) | apply W.store cx_ok | (apply W.gS; rfl; decide) | (apply D.gS; rfl; decide; decide) | apply AW.cond); (simp (disch := omega) only [push_cast, simprocAttr, Bool.and_self, Bool.and_true, Bool.true_and, Bool.false_and, Bool.and_false, Bool.not_true, Bool.not_false, Bool.false_eq_true, hl, hg] <;> rfl); all_goals try ((with_reducible intro hI); try first | (cases hI; done) | (simp only [INTS, not_true_eq_false] at hI; try first | (exfalso; omega) | (have hT : True := hI; clear hT hI))))
      | ((first | (apply D.store cx_ok; decide) | (apply D.stept cx_ok; decide; decide) | (apply D.stepm cx_ok; decide; decide)); (simp (disch := omega) only [push_cast, simprocAttr, Bool.and_self, Bool.and_true, Bool.true_and, Bool.false_and, Bool.and_false, Bool.not_true, Bool.not_false, Bool.false_eq_true, hl, hg] <;> rfl); try first | exact .inl rfl | exact .inr (by simp))
      | ((apply D.alloct cx_ok; decide; decide); (simp (disch := omega) only [push_cast, simprocAttr, Bool.and_self, Bool.and_true, Bool.true_and, Bool.false_and, Bool.and_false, Bool.not_true, Bool.not_false, Bool.false_eq_true, hl, hg] <;> rfl); first | exact .inl rfl | exact .inr (by simp))
      | ((first | (apply W.callv cx_ok; decide) | (apply D.callv cx_ok; decide; decide) | (apply D.callvt cx_ok; decide; decide)); (iterate 2 (simp (disch := omega) only [push_cast, simprocAttr, Bool.and_self, Bool.and_true, Bool.true_and, Bool.false_and, Bool.and_false, Bool.not_true, Bool.not_false, Bool.false_eq_true, hl, hg] <;> rfl)); (with_reducible first | exact c3); try first | rfl | (simp (disch := omega) only [push_cast, simprocAttr, Bool.and_self, Bool.and_true, Bool.true_and, Bool.false_and, Bool.and_false, Bool.not_true, Bool.not_false, Bool.false_eq_true, hl, hg] <;> rfl))
      | ((first | apply W.retM | apply W.endM'); (iterate 2 (try (simp (disch := omega) only [push_cast, simprocAttr, Bool.and_self, Bool.and_true, Bool.true_and, Bool.false_and, Bool.and_false, Bool.not_true, Bool.not_false, Bool.false_eq_true, hl, hg] <;> rfl))))

    all_goals (show _ = _; rfl)
theorem pins_ok (n : Int) : OKv cx 99 [ai n] (ab (inF n 0 4095)) := by
  refine OKat.of_body (rs := [2]) Tryd.func99 rfl (by decide +kernel) rfl (by simp [Tryd.ntmps99]) ?_
  simp only [Tryd.ntmps99]
  repeat' first
    | apply AW.seq | apply AW.region | apply AW.ret | apply AW.block | apply AW.skip | apply AW.exit | apply AW.scope | apply AW.label | apply AWL.nil
    | ((first | (apply W.step cx_ok; decide) | (apply W.gS; rfl; decide) | apply AW.cond); (simp (disch := omega) only [push_cast, simprocAttr, Bool.and_self, Bool.and_true, Bool.true_and, Bool.false_and, Bool.and_false, Bool.not_true, Bool.not_false, Bool.false_eq_true] <;> rfl); all_goals try ((with_reducible intro hI); try first | (cases hI; done) | (simp only [INTS, not_true_eq_false] at hI; try first | (exfalso; omega) | (have hT : True := hI; clear hT hI))))
    | ((first | apply W.ret1 | apply W.end1); (iterate 2 (try (simp (disch := omega) only [push_cast, simprocAttr, Bool.and_self, Bool.and_true, Bool.true_and, Bool.false_and, Bool.and_false, Bool.not_true, Bool.not_false, Bool.false_eq_true] <;> rfl))))

  all_goals (first | (show _ = _; rfl) | (refine congrArg (fun b => ab b) ?_; rw [Bool.eq_iff_iff]; unfold inF; simp only [beq_iff_eq, bne_iff_ne, ne_eq, Bool.and_eq_true, Bool.or_eq_true, Bool.not_eq_true, decide_eq_true_eq, decide_eq_false_iff_not, Bool.false_eq_true, eq_self, true_iff, false_iff, iff_true, iff_false, and_true, true_and, and_false, false_and, or_false, false_or, or_true, true_or, not_true_eq_false, not_false_eq_true]; omega))
theorem Rpins_ok (n : Int) : OKv cx 101 [ai n] (ab (inF n 0 4095)) := by
  have c1 := In_ok n 0 4095
  refine OKat.of_body (rs := [2]) Tryd.func101 rfl (by decide +kernel) rfl (by simp [Tryd.ntmps101]) ?_
  simp only [Tryd.ntmps101]
  repeat' first
    | apply AW.seq | apply AW.region | apply AW.ret | apply AW.block | apply AW.skip | apply AW.exit | apply AW.scope | apply AW.label | apply AWL.nil
    | ((first | (apply W.step cx_ok; decide) | apply AW.cond); (simp (disch := omega) only [push_cast, simprocAttr] <;> rfl); all_goals try ((with_reducible intro hI); try first | (cases hI; done) | (simp only [INTS, not_true_eq_false] at hI; try first | (exfalso; omega) | (have hT : True := hI; clear hT hI))))
    | ((apply W.callv cx_ok; decide); (iterate 2 (simp (disch := omega) only [push_cast, simprocAttr] <;> rfl)); (with_reducible first | exact c1); try first | rfl | (simp (disch := omega) only [push_cast, simprocAttr] <;> rfl))
    | ((first | apply W.ret1 | apply W.end1); (iterate 2 (try (simp (disch := omega) only [push_cast, simprocAttr] <;> rfl))))

  all_goals (show _ = _; rfl)
def keyV (k : Key) : Bool := inF k.id 1 1099511627776 && inF k.track 0 3 && inF k.pat 1 4095
theorem inF_iff {n lo hi : Int} : inF n lo hi = true ↔ lo ≤ n ∧ n ≤ hi := by unfold inF; simp only [Bool.and_eq_true, decide_eq_true_eq]
theorem keyV_iff {k : Key} : keyV k = true ↔ (1 ≤ k.id ∧ k.id ≤ 1099511627776) ∧ (0 ≤ k.track ∧ k.track ≤ 3) ∧ 1 ≤ k.pat ∧ k.pat ≤ 4095 := by
  unfold keyV
  rw [Bool.and_eq_true, Bool.and_eq_true, inF_iff, inF_iff, inF_iff, and_assoc]
theorem CheckKey_ok (k : Key) : OKv cx 77 [.agg (eKey k)] (ai (if keyV k = true then 0 else 1)) := by
  have c1 := pins_ok k.pat
  by_cases hp : 0 ≤ k.pat ∧ k.pat ≤ 4095
  · rw [show inF k.pat 0 4095 = true from inF_iff.2 hp] at c1
    refine OKat.of_body (rs := [2]) Tryd.func77 rfl (by decide +kernel) rfl (by simp [Tryd.ntmps77]) ?_
    simp only [Tryd.ntmps77]
    repeat' first
      | apply AW.seq | apply AW.region | apply AW.ret | apply AW.block | apply AW.skip | apply AW.exit | apply AW.scope | apply AW.label | apply AWL.nil
      | ((first | (apply W.step cx_ok; decide) | (apply W.gS; rfl; decide) | apply AW.cond); (simp (disch := omega) only [push_cast, simprocAttr, Bool.and_self, Bool.and_true, Bool.true_and, Bool.false_and, Bool.and_false, Bool.not_true, Bool.not_false, Bool.false_eq_true] <;> rfl); all_goals try ((with_reducible intro hI); try first | (cases hI; done) | (simp only [INTS, not_true_eq_false] at hI; try first | (exfalso; omega) | (have hT : True := hI; clear hT hI))))
      | ((apply W.callv cx_ok; decide); (iterate 2 (simp (disch := omega) only [push_cast, simprocAttr, Bool.and_self, Bool.and_true, Bool.true_and, Bool.false_and, Bool.and_false, Bool.not_true, Bool.not_false, Bool.false_eq_true] <;> rfl)); (with_reducible first | exact c1); try first | rfl | (simp (disch := omega) only [push_cast, simprocAttr, Bool.and_self, Bool.and_true, Bool.true_and, Bool.false_and, Bool.and_false, Bool.not_true, Bool.not_false, Bool.false_eq_true] <;> rfl))
      | ((first | apply W.ret1 | apply W.end1); (iterate 2 (try (simp (disch := omega) only [push_cast, simprocAttr, Bool.and_self, Bool.and_true, Bool.true_and, Bool.false_and, Bool.and_false, Bool.not_true, Bool.not_false, Bool.false_eq_true] <;> rfl))))

    all_goals (show _ = _; first | (rw [if_pos (keyV_iff.2 (by omega))]) | (rw [if_neg (fun h => by have := keyV_iff.1 h; omega)]))
  · rw [show inF k.pat 0 4095 = false from Bool.eq_false_iff.2 fun h => hp (inF_iff.1 h)] at c1
    refine OKat.of_body (rs := [2]) Tryd.func77 rfl (by decide +kernel) rfl (by simp [Tryd.ntmps77]) ?_
    simp only [Tryd.ntmps77]
    repeat' first
      | apply AW.seq | apply AW.region | apply AW.ret | apply AW.block | apply AW.skip | apply AW.exit | apply AW.scope | apply AW.label | apply AWL.nil
      | ((first | (apply W.step cx_ok; decide) | (apply W.gS; rfl; decide) | apply AW.cond); (simp (disch := omega) only [push_cast, simprocAttr, Bool.and_self, Bool.and_true, Bool.true_and, Bool.false_and, Bool.and_false, Bool.not_true, Bool.not_false, Bool.false_eq_true] <;> rfl); all_goals try ((with_reducible intro hI); try first | (cases hI; done) | (simp only [INTS, not_true_eq_false] at hI; try first | (exfalso; omega) | (have hT : True := hI; clear hT hI))))
      | ((apply W.callv cx_ok; decide); (iterate 2 (simp (disch := omega) only [push_cast, simprocAttr, Bool.and_self, Bool.and_true, Bool.true_and, Bool.false_and, Bool.and_false, Bool.not_true, Bool.not_false, Bool.false_eq_true] <;> rfl)); (with_reducible first | exact c1); try first | rfl | (simp (disch := omega) only [push_cast, simprocAttr, Bool.and_self, Bool.and_true, Bool.true_and, Bool.false_and, Bool.and_false, Bool.not_true, Bool.not_false, Bool.false_eq_true] <;> rfl))
      | ((first | apply W.ret1 | apply W.end1); (iterate 2 (try (simp (disch := omega) only [push_cast, simprocAttr, Bool.and_self, Bool.and_true, Bool.true_and, Bool.false_and, Bool.and_false, Bool.not_true, Bool.not_false, Bool.false_eq_true] <;> rfl))))

    all_goals (show _ = _; first | (rw [if_pos (keyV_iff.2 (by omega))]) | (rw [if_neg (fun h => by have := keyV_iff.1 h; omega)]))
theorem Key_ok (k : Key) : OKv cx 78 [.agg (eKey k)] (ab (keyV k)) := by
  have c1 := In_ok k.id 1 1099511627776
  have c2 := In_ok k.track 0 3
  have c3 := In_ok k.pat 1 4095
  unfold keyV
  cases h1 : inF k.id 1 1099511627776 <;> rw [h1] at c1 <;> cases h2 : inF k.track 0 3 <;> rw [h2] at c2 <;> cases h3 : inF k.pat 1 4095 <;> rw [h3] at c3
  all_goals
    refine OKat.of_body (rs := [2]) Tryd.func78 rfl (by decide +kernel) rfl (by simp [Tryd.ntmps78]) ?_
    simp only [Tryd.ntmps78]
    repeat' first
      | apply AW.seq | apply AW.region | apply AW.ret | apply AW.block | apply AW.skip | apply AW.exit | apply AW.scope | apply AW.label | apply AWL.nil
      | ((first | (apply W.step cx_ok; decide) | (apply W.gS; rfl; decide) | apply AW.cond); (simp (disch := omega) only [push_cast, simprocAttr, Bool.and_self, Bool.and_true, Bool.true_and, Bool.false_and, Bool.and_false, Bool.not_true, Bool.not_false, Bool.false_eq_true] <;> rfl); all_goals try ((with_reducible intro hI); try first | (cases hI; done) | (simp only [INTS, not_true_eq_false] at hI; try first | (exfalso; omega) | (have hT : True := hI; clear hT hI))))
      | ((apply W.callv cx_ok; decide); (iterate 2 (simp (disch := omega) only [push_cast, simprocAttr, Bool.and_self, Bool.and_true, Bool.true_and, Bool.false_and, Bool.and_false, Bool.not_true, Bool.not_false, Bool.false_eq_true] <;> rfl)); (with_reducible first | exact c1 | exact c2 | exact c3); try first | rfl | (simp (disch := omega) only [push_cast, simprocAttr, Bool.and_self, Bool.and_true, Bool.true_and, Bool.false_and, Bool.and_false, Bool.not_true, Bool.not_false, Bool.false_eq_true] <;> rfl))
      | ((first | apply W.ret1 | apply W.end1); (iterate 2 (try (simp (disch := omega) only [push_cast, simprocAttr, Bool.and_self, Bool.and_true, Bool.true_and, Bool.false_and, Bool.and_false, Bool.not_true, Bool.not_false, Bool.false_eq_true] <;> rfl))))

    all_goals (show _ = _; rfl)
def inkV (i : Ink) : Bool := inF i.faint 0 4 && inF i.stray 0 4 && inF i.slip 0 600
theorem inkV_iff {i : Ink} : inkV i = true ↔ (0 ≤ i.faint ∧ i.faint ≤ 4) ∧ (0 ≤ i.stray ∧ i.stray ≤ 4) ∧ 0 ≤ i.slip ∧ i.slip ≤ 600 := by
  unfold inkV
  rw [Bool.and_eq_true, Bool.and_eq_true, inF_iff, inF_iff, inF_iff, and_assoc]
theorem CheckInk_ok (i : Ink) : OKv cx 75 [.agg (eInk i)] (ai (if inkV i = true then 0 else 1)) := by
  refine OKat.of_body (rs := [2]) Tryd.func75 rfl (by decide +kernel) rfl (by simp [Tryd.ntmps75]) ?_
  simp only [Tryd.ntmps75]
  repeat' first
    | apply AW.seq | apply AW.region | apply AW.ret | apply AW.block | apply AW.skip | apply AW.exit | apply AW.scope | apply AW.label | apply AWL.nil
    | ((first | (apply W.step cx_ok; decide) | (apply W.gS; rfl; decide) | apply AW.cond); (simp (disch := omega) only [push_cast, simprocAttr, Bool.and_self, Bool.and_true, Bool.true_and, Bool.false_and, Bool.and_false, Bool.not_true, Bool.not_false, Bool.false_eq_true] <;> rfl); all_goals try ((with_reducible intro hI); try first | (cases hI; done) | (simp only [INTS, not_true_eq_false] at hI; try first | (exfalso; omega) | (have hT : True := hI; clear hT hI))))
    | ((first | apply W.ret1 | apply W.end1); (iterate 2 (try (simp (disch := omega) only [push_cast, simprocAttr, Bool.and_self, Bool.and_true, Bool.true_and, Bool.false_and, Bool.and_false, Bool.not_true, Bool.not_false, Bool.false_eq_true] <;> rfl))))

  all_goals (show _ = _; first | (rw [if_pos (inkV_iff.2 (by omega))]) | (rw [if_neg (fun h => by have := inkV_iff.1 h; omega)]))
theorem Ink_ok (i : Ink) : OKv cx 76 [.agg (eInk i)] (ab (inkV i)) := by
  have c1 := In_ok i.faint 0 4
  have c2 := In_ok i.stray 0 4
  have c3 := In_ok i.slip 0 600
  unfold inkV
  cases h1 : inF i.faint 0 4 <;> rw [h1] at c1 <;> cases h2 : inF i.stray 0 4 <;> rw [h2] at c2 <;> cases h3 : inF i.slip 0 600 <;> rw [h3] at c3
  all_goals
    refine OKat.of_body (rs := [2]) Tryd.func76 rfl (by decide +kernel) rfl (by simp [Tryd.ntmps76]) ?_
    simp only [Tryd.ntmps76]
    repeat' first
      | apply AW.seq | apply AW.region | apply AW.ret | apply AW.block | apply AW.skip | apply AW.exit | apply AW.scope | apply AW.label | apply AWL.nil
      | ((first | (apply W.step cx_ok; decide) | (apply W.gS; rfl; decide) | apply AW.cond); (simp (disch := omega) only [push_cast, simprocAttr, Bool.and_self, Bool.and_true, Bool.true_and, Bool.false_and, Bool.and_false, Bool.not_true, Bool.not_false, Bool.false_eq_true] <;> rfl); all_goals try ((with_reducible intro hI); try first | (cases hI; done) | (simp only [INTS, not_true_eq_false] at hI; try first | (exfalso; omega) | (have hT : True := hI; clear hT hI))))
      | ((apply W.callv cx_ok; decide); (iterate 2 (simp (disch := omega) only [push_cast, simprocAttr, Bool.and_self, Bool.and_true, Bool.true_and, Bool.false_and, Bool.and_false, Bool.not_true, Bool.not_false, Bool.false_eq_true] <;> rfl)); (with_reducible first | exact c1 | exact c2 | exact c3); try first | rfl | (simp (disch := omega) only [push_cast, simprocAttr, Bool.and_self, Bool.and_true, Bool.true_and, Bool.false_and, Bool.and_false, Bool.not_true, Bool.not_false, Bool.false_eq_true] <;> rfl))
      | ((first | apply W.ret1 | apply W.end1); (iterate 2 (try (simp (disch := omega) only [push_cast, simprocAttr, Bool.and_self, Bool.and_true, Bool.true_and, Bool.false_and, Bool.and_false, Bool.not_true, Bool.not_false, Bool.false_eq_true] <;> rfl))))

    all_goals (show _ = _; rfl)
theorem andI {p q : Nat} (hp : p < 4611686018427387904) (hq : q < 4611686018427387904) : IntKind.wrap .i64 ((BitVec.ofInt (IntKind.bits .i64) (p : Int) &&& BitVec.ofInt (IntKind.bits .i64) (q : Int)).toNat : Int) = ((p &&& q : Nat) : Int) := andB hp hq
theorem orI {p q : Nat} (hp : p < 4611686018427387904) (hq : q < 4611686018427387904) : IntKind.wrap .i64 ((BitVec.ofInt (IntKind.bits .i64) (p : Int) ||| BitVec.ofInt (IntKind.bits .i64) (q : Int)).toNat : Int) = ((p ||| q : Nat) : Int) := orB hp hq
theorem andNotI {p q : Nat} (hp : p < 4611686018427387904) (hq : q < 4611686018427387904) : IntKind.wrap .i64 ((BitVec.ofInt (IntKind.bits .i64) (p : Int) &&& ~~~ BitVec.ofInt (IntKind.bits .i64) (q : Int)).toNat : Int) = ((dropB p q : Nat) : Int) := andNotB hp hq
theorem bitI {p : Nat} (hp : p < 4611686018427387904) (k : Nat) (hk : k < 64) : IntKind.wrap .i64 ((BitVec.ofInt (IntKind.bits .i64) ((p : Int).fdiv (2 ^ (min k (IntKind.bits .i64)))) &&& BitVec.ofInt (IntKind.bits .i64) 1).toNat : Int) = ((if p.testBit k = true then 1 else 0 : Nat) : Int) := by
  rw [← bit_eq]; exact bitB hp k hk
theorem cnt_step (p k : Nat) : ((cntK p k : Nat) : Int) + ((if p.testBit k = true then 1 else 0 : Nat) : Int) = ((cntK p (k + 1) : Nat) : Int) := by
  rw [cntK]; omega
theorem count_ok (p : Nat) (hp : p < 4611686018427387904) : OKv cx 125 [ai p] (ai (cntF p)) := by
  refine OKat.of_body (rs := [2]) Tryd.func125 rfl (by decide +kernel) rfl (by simp [Tryd.ntmps125]) ?_
  simp only [Tryd.ntmps125]
  repeat' first
    | apply AW.seq | apply AW.region | apply AW.ret | apply AW.block | apply AW.skip | apply AW.exit | apply AW.scope | apply AW.label | apply AWL.nil
    | ((first | (apply W.step cx_ok; decide) | apply AW.cond); (simp (disch := omega) only [push_cast, simprocAttr] <;> rfl); all_goals try ((with_reducible intro hI); try first | (cases hI; done) | (simp only [INTS, not_true_eq_false] at hI; try first | (exfalso; omega) | (have hT : True := hI; clear hT hI))))
    | ((first | apply W.ret1 | apply W.end1); (iterate 2 (try (simp (disch := omega) only [push_cast, simprocAttr] <;> rfl))))

  refine AW.loop (fun n s => ∃ (k : Nat), n = 12 - k ∧ (k ≤ 12) ∧ s.tm 0 = ai p ∧ s.tm 3 = ai (cntK p k) ∧ s.tm 5 = ai k) (12) ⟨0, rfl, (by omega), ?_, ?_, ?_⟩ ?_
  iterate 3 (first | (simp (disch := omega) only [push_cast, simprocAttr, cntK] <;> first | rfl | omega) | omega)
  rintro n s ⟨k, hn, hp0, hS⟩
  by_cases hk : k < 12
  · have hkI : (k : Int) < 12 := by omega
    have hb := bitI hp k (by omega)
    have hs := cnt_step p k
    have hle := cntK_le p (k + 1)
    repeat' first
      | apply AW.seq | apply AW.region | apply AW.ret | apply AW.block | apply AW.skip | apply AW.exit | apply AW.scope | apply AW.label | apply AWL.nil
      | ((first | (apply W.step cx_ok; decide) | apply AW.cond); (simp (disch := omega) only [push_cast, simprocAttr, hS, hkI, hb, hs] <;> rfl); all_goals try ((with_reducible intro hI); try first | (cases hI; done) | (simp only [INTS, not_true_eq_false] at hI; try first | (exfalso; omega) | (have hT : True := hI; clear hT hI))))
      | ((first | apply W.ret1 | apply W.end1); (iterate 2 (try (simp (disch := omega) only [push_cast, simprocAttr, hS, hkI, hb, hs] <;> rfl))))

    all_goals (refine ⟨12 - (k + 1), ?_, k + 1, rfl, (by omega), ?_, ?_, ?_⟩; (omega); all_goals first | (simp (disch := omega) only [push_cast, simprocAttr, hS, hkI, hb, hs] <;> first | rfl | omega) | omega)
  have hkI : ¬ (k : Int) < 12 := by omega
  have hkS : k = 12 := by omega
  subst hkS
  repeat' first
    | apply AW.seq | apply AW.region | apply AW.ret | apply AW.block | apply AW.skip | apply AW.exit | apply AW.scope | apply AW.label | apply AWL.nil
    | ((first | (apply W.step cx_ok; decide) | apply AW.cond); (simp (disch := omega) only [push_cast, simprocAttr, hS, hkI] <;> rfl); all_goals try ((with_reducible intro hI); try first | (cases hI; done) | (simp only [INTS, not_true_eq_false] at hI; try first | (exfalso; omega) | (have hT : True := hI; clear hT hI))))
    | ((first | apply W.ret1 | apply W.end1); (iterate 2 (try (simp (disch := omega) only [push_cast, simprocAttr, hS, hkI] <;> rfl))))

  all_goals (show _ = _; rfl)
theorem Count_ok (p : Nat) (hp : p < 4611686018427387904) : OKv cx 106 [ai p] (ai (cntF p)) := by
  refine OKat.of_body (rs := [2]) Tryd.func106 rfl (by decide +kernel) rfl (by simp [Tryd.ntmps106]) ?_
  simp only [Tryd.ntmps106]
  repeat' first
    | apply AW.seq | apply AW.region | apply AW.ret | apply AW.block | apply AW.skip | apply AW.exit | apply AW.scope | apply AW.label | apply AWL.nil
    | ((first | (apply W.step cx_ok; decide) | apply AW.cond); (simp (disch := omega) only [push_cast, simprocAttr] <;> rfl); all_goals try ((with_reducible intro hI); try first | (cases hI; done) | (simp only [INTS, not_true_eq_false] at hI; try first | (exfalso; omega) | (have hT : True := hI; clear hT hI))))
    | ((first | apply W.ret1 | apply W.end1); (iterate 2 (try (simp (disch := omega) only [push_cast, simprocAttr] <;> rfl))))

  refine AW.loop (fun n s => ∃ (k : Nat), n = 12 - k ∧ (k ≤ 12) ∧ s.tm 0 = ai p ∧ s.tm 3 = ai (cntK p k) ∧ s.tm 4 = ai k) (12) ⟨0, rfl, (by omega), ?_, ?_, ?_⟩ ?_
  iterate 3 (first | (simp (disch := omega) only [push_cast, simprocAttr, cntK] <;> first | rfl | omega) | omega)
  rintro n s ⟨k, hn, hp0, hS⟩
  by_cases hk : k < 12
  · have hkI : (k : Int) < 12 := by omega
    have hb := bitI hp k (by omega)
    have hs := cnt_step p k
    have hle := cntK_le p (k + 1)
    have hw : IntKind.wrap .u64 (k : Int) = (k : Int) := by
      simp [IntKind.wrap, IntKind.bits, IntKind.signed]; omega
    repeat' first
      | apply AW.seq | apply AW.region | apply AW.ret | apply AW.block | apply AW.skip | apply AW.exit | apply AW.scope | apply AW.label | apply AWL.nil
      | ((first | (apply W.step cx_ok; decide) | apply AW.cond); (simp (disch := omega) only [push_cast, simprocAttr, hS, hkI, hw, hb, hs] <;> rfl); all_goals try ((with_reducible intro hI); try first | (cases hI; done) | (simp only [INTS, not_true_eq_false] at hI; try first | (exfalso; omega) | (have hT : True := hI; clear hT hI))))
      | ((first | apply W.ret1 | apply W.end1); (iterate 2 (try (simp (disch := omega) only [push_cast, simprocAttr, hS, hkI, hw, hb, hs] <;> rfl))))

    all_goals (refine ⟨12 - (k + 1), ?_, k + 1, rfl, (by omega), ?_, ?_, ?_⟩; (omega); all_goals first | (simp (disch := omega) only [push_cast, simprocAttr, hS, hkI, hw, hb, hs] <;> first | rfl | omega) | omega)
  have hkI : ¬ (k : Int) < 12 := by omega
  have hkS : k = 12 := by omega
  subst hkS
  repeat' first
    | apply AW.seq | apply AW.region | apply AW.ret | apply AW.block | apply AW.skip | apply AW.exit | apply AW.scope | apply AW.label | apply AWL.nil
    | ((first | (apply W.step cx_ok; decide) | apply AW.cond); (simp (disch := omega) only [push_cast, simprocAttr, hS, hkI] <;> rfl); all_goals try ((with_reducible intro hI); try first | (cases hI; done) | (simp only [INTS, not_true_eq_false] at hI; try first | (exfalso; omega) | (have hT : True := hI; clear hT hI))))
    | ((first | apply W.ret1 | apply W.end1); (iterate 2 (try (simp (disch := omega) only [push_cast, simprocAttr, hS, hkI] <;> rfl))))

  all_goals (show _ = _; rfl)
end Go.Proofs.Ds

namespace Go.Proofs.Ds
def NormL (l : List Arc) : Prop := ∀ (i : Nat) (x : Arc), l[i]? = some x → validA x = true ∧ (∀ y, 0 < i → l[i - 1]? = some y → y.from_ < x.from_) ∧ ∀ (k : Nat) (y : Arc), l[k]? = some y → k ≠ i → x.len + 1 < aheadF x.from_ y.from_
theorem bumpF_get (h : Int) : ∀ (m : List Span) (i : Nat), (bumpF h m)[i]? = (m[i]?).map fun s => if i + 1 = m.length then (⟨s.lo, s.hi - s.lo + 1 + h⟩ : Arc) else arcS s
  | [], i => by simp [bumpF]
  | s :: m, 0 => by
    rw [bumpF_cons]
    cases m with
    | nil => rfl
    | cons t m => simp
  | s :: m, i + 1 => by
    rw [bumpF_cons]
    have := bumpF_get h m i
    simp only [List.getElem?_cons_succ, List.length_cons, Nat.add_right_cancel_iff]
    exact this
theorem ahead_of {a b : Int} (ha : 0 ≤ a ∧ a ≤ 43199) (hb : 0 ≤ b ∧ b ≤ 43199) : aheadF a b = if a ≤ b then b - a else b - a + 43200 := by
  unfold aheadF angF
  split <;> omega
theorem canon_lt {l : List Span} (hc : canon l) {i k : Nat} {s t : Span} (hs : l[i]? = some s) (ht : l[k]? = some t) (h : i < k) : s.hi + 1 < t.lo := by
  have hk : k < l.length := by
    rcases Nat.lt_or_ge k l.length with h' | h'
    · exact h'
    · rw [List.getElem?_eq_none h'] at ht; cases ht
  have hi : i < l.length := by omega
  have := List.pairwise_iff_getElem.1 hc.1 i k hi hk h
  rw [List.getElem?_eq_getElem hi] at hs
  rw [List.getElem?_eq_getElem hk] at ht
  cases hs; cases ht
  exact this
theorem arcsF_norm {l : List Span} (hc : canon l) (hi : inC l) : NormL (arcsF l) := by
  have hv := (arcsF_spec hc hi).1
  intro i x hx
  refine ⟨hv x (List.mem_of_getElem? hx), ?_⟩
  unfold arcsF at hx ⊢
  by_cases hA : around l = true
  · rw [if_pos hA] at hx ⊢
    unfold around at hA
    simp only [Bool.and_eq_true, decide_eq_true_eq] at hA
    obtain ⟨⟨h1, h2⟩, h3⟩ := hA
    match l, h1, h2, h3, hc, hi, hx with
    | f :: m, h1, h2, h3, hc, hi, hx =>
      simp only [List.getD_cons_zero, List.drop_succ_cons, List.drop_zero] at h2 hx ⊢
      have hm : m ≠ [] := by rintro rfl; simp at h1
      obtain ⟨c1, c2, c3⟩ := canon_cons.1 hc
      have im : inC m := fun s hs => hi s (by simp [hs])
      have hlast : ∀ s, m[m.length - 1]? = some s → s.hi = 43199 := by
        intro s hs
        have hl : 0 < m.length := List.length_pos_iff.2 hm
        have : (f :: m).getD ((f :: m).length - 1) default = s := by
          rw [List.getD_eq_getElem?_getD, List.length_cons, Nat.add_sub_cancel, show m.length = m.length - 1 + 1 by omega, List.getElem?_cons_succ, hs]; rfl
        rw [this] at h3; exact h3
      rw [bumpF_get] at hx
      obtain ⟨s, hs, rfl⟩ := Option.map_eq_some_iff.1 hx
      have hsi := im s (List.mem_of_getElem? hs)
      have hsw := c3.2 s (List.mem_of_getElem? hs)
      have hsf := c2 s (List.mem_of_getElem? hs)
      have hf0 := hi f (by simp)
      refine ⟨?_, ?_⟩
      · intro y h0 hy
        rw [bumpF_get] at hy
        obtain ⟨t, ht, rfl⟩ := Option.map_eq_some_iff.1 hy
        have := canon_lt c3 ht hs (by omega)
        have htw := c3.2 t (List.mem_of_getElem? ht)
        have e1 : (if i - 1 + 1 = m.length then (⟨t.lo, t.hi - t.lo + 1 + f.hi⟩ : Arc) else arcS t).from_ = t.lo := by split <;> rfl
        have e2 : (if i + 1 = m.length then (⟨s.lo, s.hi - s.lo + 1 + f.hi⟩ : Arc) else arcS s).from_ = s.lo := by split <;> rfl
        rw [e1, e2]; omega
      · intro k y hy hk
        rw [bumpF_get] at hy
        obtain ⟨t, ht, rfl⟩ := Option.map_eq_some_iff.1 hy
        have hti := im t (List.mem_of_getElem? ht)
        have htw := c3.2 t (List.mem_of_getElem? ht)
        have htf := c2 t (List.mem_of_getElem? ht)
        have e1 : (if k + 1 = m.length then (⟨t.lo, t.hi - t.lo + 1 + f.hi⟩ : Arc) else arcS t).from_ = t.lo := by split <;> rfl
        have e2 : (if i + 1 = m.length then (⟨s.lo, s.hi - s.lo + 1 + f.hi⟩ : Arc) else arcS s).from_ = s.lo := by split <;> rfl
        rw [e1, e2, ahead_of (by omega) (by omega)]
        by_cases hl : i + 1 = m.length
        · rw [if_pos hl]
          dsimp only
          have h9 := hlast s (by rw [← hs]; congr 1; omega)
          have hki : k < i := by
            have : k < m.length := by
              rcases Nat.lt_or_ge k m.length with h' | h'
              · exact h'
              · rw [List.getElem?_eq_none h'] at ht; cases ht
            omega
          have := canon_lt c3 ht hs hki
          rw [if_neg (by omega)]
          omega
        · rw [if_neg hl]
          show s.hi - s.lo + 1 < _
          rcases Nat.lt_or_gt_of_ne hk with h | h
          · have := canon_lt c3 ht hs h
            rw [if_neg (by omega)]; omega
          · have := canon_lt c3 hs ht h
            rw [if_pos (by omega)]; omega
  · rw [if_neg hA] at hx ⊢
    rw [List.getElem?_map] at hx
    obtain ⟨s, hs, rfl⟩ := Option.map_eq_some_iff.1 hx
    have hsi := hi s (List.mem_of_getElem? hs)
    have hsw := hc.2 s (List.mem_of_getElem? hs)
    refine ⟨?_, ?_⟩
    · intro y h0 hy
      rw [List.getElem?_map] at hy
      obtain ⟨t, ht, rfl⟩ := Option.map_eq_some_iff.1 hy
      have := canon_lt hc ht hs (by omega)
      have htw := hc.2 t (List.mem_of_getElem? ht)
      show t.lo < s.lo
      omega
    · intro k y hy hk
      rw [List.getElem?_map] at hy
      obtain ⟨t, ht, rfl⟩ := Option.map_eq_some_iff.1 hy
      have hti := hi t (List.mem_of_getElem? ht)
      have htw := hc.2 t (List.mem_of_getElem? ht)
      show s.hi - s.lo + 1 < aheadF s.lo t.lo
      rw [ahead_of (by omega) (by omega)]
      rcases Nat.lt_or_gt_of_ne hk with h | h
      · have := canon_lt hc ht hs h
        rw [if_neg (by omega)]
        by_cases hz : t.lo = 0 ∧ s.hi = 43199
        · exfalso
          apply hA
          have hil : i < l.length := by
            rcases Nat.lt_or_ge i l.length with h' | h'
            · exact h'
            · rw [List.getElem?_eq_none h'] at hs; cases hs
          have hk0 : k = 0 := by
            rcases Nat.eq_zero_or_pos k with h0 | h0
            · exact h0
            · obtain ⟨u, hu⟩ : ∃ u, l[0]? = some u := ⟨_, List.getElem?_eq_getElem (by omega)⟩
              have := canon_lt hc hu ht h0
              have := (hi u (List.mem_of_getElem? hu)).1
              have := hc.2 u (List.mem_of_getElem? hu)
              omega
          have hie : i = l.length - 1 := by
            rcases Nat.lt_or_ge i (l.length - 1) with h0 | h0
            · obtain ⟨u, hu⟩ : ∃ u, l[l.length - 1]? = some u := ⟨_, List.getElem?_eq_getElem (by omega)⟩
              have := canon_lt hc hs hu h0
              have := (hi u (List.mem_of_getElem? hu)).2
              have := hc.2 u (List.mem_of_getElem? hu)
              omega
            · omega
          subst hk0
          unfold around
          rw [List.getD_eq_getElem?_getD, List.getD_eq_getElem?_getD, ht, ← hie, hs]
          simp only [Option.getD_some, hz.1, hz.2, decide_true, Bool.and_true, decide_eq_true_eq]
          omega
        · omega
      · have := canon_lt hc hs ht h
        rw [if_pos (by omega)]; omega
theorem wide_near {x : Arc} (hv : validA x = true) {n : Int} (hn : 0 ≤ n ∧ n < 700) (a : Int) :
    hasF (wideF x n) a = (hasF x a || decide (apartF a x.from_ ≤ n) || decide (apartF a (angF (x.from_ + x.len)) ≤ n)) := by
  have hw := wide_valid hv hn.1
  obtain ⟨h1, h2, h3, h4, h5⟩ := validA_iff.1 hv
  unfold hasF
  rw [hw, hv, Bool.true_and, Bool.true_and, Bool.eq_iff_iff]
  simp only [Bool.or_eq_true, decide_eq_true_eq]
  unfold wideF apartF aheadF
  have ha := angF_bd a
  have e : angF (angF a) = angF a := by unfold angF; omega
  obtain ⟨A, hA⟩ : ∃ z, angF a = z := ⟨_, rfl⟩
  rw [hA] at ha ⊢
  by_cases g : 43199 ≤ x.len + 2 * n
  · rw [if_pos g]
    dsimp only
    unfold angF
    omega
  · rw [if_neg g]
    dsimp only
    unfold angF
    omega
theorem arcsF_nil {l : List Span} : arcsF l = [] ↔ l = [] := by
  constructor
  · intro h
    unfold arcsF at h
    split at h
    · rename_i g
      unfold around at g
      simp only [Bool.and_eq_true, decide_eq_true_eq] at g
      match l, g with
      | [], _ => rfl
      | [_], g => exact absurd g.1.1 (by simp)
      | s :: t :: l, _ =>
        simp only [List.drop_succ_cons, List.drop_zero] at h
        rw [bumpF_cons] at h; cases h
    · exact List.map_eq_nil_iff.1 h
  · rintro rfl; rfl
end Go.Proofs.Ds
