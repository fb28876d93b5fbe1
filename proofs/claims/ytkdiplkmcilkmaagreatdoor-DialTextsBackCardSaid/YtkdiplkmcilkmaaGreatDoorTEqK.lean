/-
  Contracts of functions, proved by going through their code. No conditions.
-/
import Derived.Test.YtkdiplkmcilkmaaGreatDoorTEqJ
set_option linter.unusedVariables false
set_option linter.unusedSimpArgs false
set_option maxHeartbeats 8000000
set_option maxRecDepth 10000
namespace Go.Proofs.Dz
open Go Go.Pg Go.Proofs Go.Proofs.Ds Go.Tx Go.Tx
theorem Print_any (ms : List Mark) (hl : ms.length ≤ 1099511627776) : OKv cx 22 [lMark ms] (.tup [at_ (printF ms).1, ai (printF ms).2]) := by
  by_cases h : 60 < ms.length
  · unfold printF
    rw [if_pos h]
    have hT : (60 < (ms.length : Int)) = True := eq_true (by omega)
    refine OKat.of_body (rs := [2, 3]) Tryz.func22 rfl (by decide +kernel) rfl (by simp [Tryz.ntmps22]) ?_
    simp only [Tryz.ntmps22]
    repeat' first
      | apply AW.seq | apply AW.region | apply AW.ret | apply AW.block | apply AW.skip | apply AW.exit | apply AW.scope | apply AW.label | apply AWL.nil | apply D.nil
      | refine W.draw cx_mixed (by decide +kernel) ?_
      | ((first | (apply W.step cx_ok; decide) | (apply D.step cx_ok; decide; decide) | apply W.store cx_ok | apply AW.cond); (simp (disch := omega) only [push_cast, simprocAttr, natNe, List.mem_cons, List.not_mem_nil, TyD.isAgg, Nat.add_assoc, Bool.and_self, Bool.and_true, Bool.true_and, Bool.false_and, Bool.and_false, Bool.not_true, Bool.not_false, Bool.false_eq_true, hT] <;> rfl); all_goals try ((with_reducible intro hI); try first | (cases hI; done) | (simp only [INTS, not_true_eq_false] at hI; try first | (exfalso; omega) | (have hT : True := hI; clear hT hI))))
      | ((first | apply W.ret2 | apply W.end2); (iterate 2 (try (simp (disch := omega) only [push_cast, simprocAttr, natNe, List.mem_cons, List.not_mem_nil, TyD.isAgg, Nat.add_assoc, Bool.and_self, Bool.and_true, Bool.true_and, Bool.false_and, Bool.and_false, Bool.not_true, Bool.not_false, Bool.false_eq_true, hT] <;> rfl))))

    all_goals (show _ = _; rfl)
  · exact Print_all ms (by omega) _ _ _ _ rfl rfl (by unfold printF; rw [if_neg h])
theorem textB_size : ∀ (ms : List Mark), ms.all markV = true → (textB ms).size ≤ 79 * ms.length
  | [], _ => Nat.le_refl _
  | m :: ms, h => by
    rw [List.all_cons, Bool.and_eq_true] at h
    have := (lineB_size m h.1).2
    have := textB_size ms h.2
    rw [textB_cons, ByteArray.size_append, List.length_cons]
    omega
theorem law5_ok (hs : OKv cy 7 [] (ab true)) (ms : List Mark) (text : ByteArray) : OKv cy 5 [lMark ms, at_ text] (ab true) := by
  have hf3 : ∀ x, flatA (.v x) = true := fun _ => rfl
  have hf5 : ∀ x y, flatA (.tup [.v x, .v y]) = true := fun _ _ => rfl
  have hf6 : ∀ l, flatA (.lst l) = false := fun _ => rfl
  have hf7 : ∀ l x, flatA (.tup [.lst l, .v x]) = false := fun _ _ => rfl
  by_cases h80 : 80 < (ms.length : Int)
  · have hT := eq_true h80
    refine OKat.of_body (rs := [4]) Tryz.func5 rfl (by decide +kernel) rfl (by simp [Tryz.ntmps5]) ?_
    simp only [Tryz.ntmps5]
    repeat' first
      | apply AW.seq | apply AW.region | apply AW.ret | apply AW.block | apply AW.skip | apply AW.exit | apply AW.scope | apply AW.label | apply AWL.nil
      | refine W.draw cy_mixed (by decide +kernel) ?_
      | ((first | (apply W.step cy_ok; decide) | (apply D.step cy_ok; decide; decide) | apply W.store cy_ok | (apply W.gS; rfl; decide) | apply AW.cond); (simp (disch := omega) only [push_cast, simprocAttr, natNe, List.mem_cons, List.not_mem_nil, TyD.isAgg, Nat.add_assoc, Bool.and_self, Bool.and_true, Bool.true_and, Bool.false_and, Bool.and_false, Bool.not_true, Bool.not_false, Bool.false_eq_true, beq_self_eq_true, List.map_nil, List.length_nil, hf3, hf5, St.back, rowAt_aftJ, idsL, idsA, List.cons_append, List.nil_append, List.append_nil, hf6, hf7, hT] <;> rfl); all_goals try ((with_reducible intro hI); try first | (cases hI; done) | (simp only [INTS, not_true_eq_false] at hI; try first | (exfalso; omega) | (have hT : True := hI; clear hT hI))))
      | ((first | (apply W.callv cy_ok; decide) | (apply D.callv cy_ok; decide; decide)); (iterate 2 (simp (disch := omega) only [push_cast, simprocAttr, natNe, List.mem_cons, List.not_mem_nil, TyD.isAgg, Nat.add_assoc, Bool.and_self, Bool.and_true, Bool.true_and, Bool.false_and, Bool.and_false, Bool.not_true, Bool.not_false, Bool.false_eq_true, beq_self_eq_true, List.map_nil, List.length_nil, hf3, hf5, St.back, rowAt_aftJ, idsL, idsA, List.cons_append, List.nil_append, List.append_nil, hf6, hf7, hT] <;> rfl)); (with_reducible first | exact hs); try first | rfl | (simp (disch := omega) only [push_cast, simprocAttr, natNe, List.mem_cons, List.not_mem_nil, TyD.isAgg, Nat.add_assoc, Bool.and_self, Bool.and_true, Bool.true_and, Bool.false_and, Bool.and_false, Bool.not_true, Bool.not_false, Bool.false_eq_true, beq_self_eq_true, List.map_nil, List.length_nil, hf3, hf5, St.back, rowAt_aftJ, idsL, idsA, List.cons_append, List.nil_append, List.append_nil, hf6, hf7, hT] <;> rfl))
      | ((first | apply W.ret1 | apply W.end1); (iterate 2 (try (simp (disch := omega) only [push_cast, simprocAttr, natNe, List.mem_cons, List.not_mem_nil, TyD.isAgg, Nat.add_assoc, Bool.and_self, Bool.and_true, Bool.true_and, Bool.false_and, Bool.and_false, Bool.not_true, Bool.not_false, Bool.false_eq_true, beq_self_eq_true, List.map_nil, List.length_nil, hf3, hf5, St.back, rowAt_aftJ, idsL, idsA, List.cons_append, List.nil_append, List.append_nil, hf6, hf7, hT] <;> rfl))))

    all_goals (show _ = _; rfl)
  have hF := eq_false h80
  by_cases h3 : 3000 < (text.size : Int)
  · have gT := eq_true h3
    refine OKat.of_body (rs := [4]) Tryz.func5 rfl (by decide +kernel) rfl (by simp [Tryz.ntmps5]) ?_
    simp only [Tryz.ntmps5]
    repeat' first
      | apply AW.seq | apply AW.region | apply AW.ret | apply AW.block | apply AW.skip | apply AW.exit | apply AW.scope | apply AW.label | apply AWL.nil
      | refine W.draw cy_mixed (by decide +kernel) ?_
      | ((first | (apply W.step cy_ok; decide) | (apply D.step cy_ok; decide; decide) | apply W.store cy_ok | (apply W.gS; rfl; decide) | apply AW.cond); (simp (disch := omega) only [push_cast, simprocAttr, natNe, List.mem_cons, List.not_mem_nil, TyD.isAgg, Nat.add_assoc, Bool.and_self, Bool.and_true, Bool.true_and, Bool.false_and, Bool.and_false, Bool.not_true, Bool.not_false, Bool.false_eq_true, beq_self_eq_true, List.map_nil, List.length_nil, hf3, hf5, St.back, rowAt_aftJ, idsL, idsA, List.cons_append, List.nil_append, List.append_nil, hf6, hf7, hF, gT] <;> rfl); all_goals try ((with_reducible intro hI); try first | (cases hI; done) | (simp only [INTS, not_true_eq_false] at hI; try first | (exfalso; omega) | (have hT : True := hI; clear hT hI))))
      | ((first | (apply W.callv cy_ok; decide) | (apply D.callv cy_ok; decide; decide)); (iterate 2 (simp (disch := omega) only [push_cast, simprocAttr, natNe, List.mem_cons, List.not_mem_nil, TyD.isAgg, Nat.add_assoc, Bool.and_self, Bool.and_true, Bool.true_and, Bool.false_and, Bool.and_false, Bool.not_true, Bool.not_false, Bool.false_eq_true, beq_self_eq_true, List.map_nil, List.length_nil, hf3, hf5, St.back, rowAt_aftJ, idsL, idsA, List.cons_append, List.nil_append, List.append_nil, hf6, hf7, hF, gT] <;> rfl)); (with_reducible first | exact hs); try first | rfl | (simp (disch := omega) only [push_cast, simprocAttr, natNe, List.mem_cons, List.not_mem_nil, TyD.isAgg, Nat.add_assoc, Bool.and_self, Bool.and_true, Bool.true_and, Bool.false_and, Bool.and_false, Bool.not_true, Bool.not_false, Bool.false_eq_true, beq_self_eq_true, List.map_nil, List.length_nil, hf3, hf5, St.back, rowAt_aftJ, idsL, idsA, List.cons_append, List.nil_append, List.append_nil, hf6, hf7, hF, gT] <;> rfl))
      | ((first | apply W.ret1 | apply W.end1); (iterate 2 (try (simp (disch := omega) only [push_cast, simprocAttr, natNe, List.mem_cons, List.not_mem_nil, TyD.isAgg, Nat.add_assoc, Bool.and_self, Bool.and_true, Bool.true_and, Bool.false_and, Bool.and_false, Bool.not_true, Bool.not_false, Bool.false_eq_true, beq_self_eq_true, List.map_nil, List.length_nil, hf3, hf5, St.back, rowAt_aftJ, idsL, idsA, List.cons_append, List.nil_append, List.append_nil, hf6, hf7, hF, gT] <;> rfl))))

    all_goals (show _ = _; rfl)
  have gF := eq_false h3
  have c1 := upv (Print_any ms (by omega))
  have c2 := upv (RPrint_ok ms (by omega))
  have c3 := Parse_ok text (by omega)
  have c4 := upv (RParse_ok text (by omega))
  rw [parse_both] at c4
  have hln : (parseF text).1.length ≤ 60 := by
    rcases parseF_cases text with ⟨m, h, e⟩ | e
    · rw [e]; exact h.1
    · rw [e]; simp
  have c5 := upv (SameMarks_same (parseF text).1 (by omega))
  generalize printF ms = PF at *
  generalize parseF text = QF at *
  obtain ⟨P1, P2⟩ := PF
  obtain ⟨Q1, Q2⟩ := QF
  dsimp only at *
  refine OKat.of_body (rs := [4]) Tryz.func5 rfl (by decide +kernel) rfl (by simp [Tryz.ntmps5]) ?_
  simp only [Tryz.ntmps5]
  repeat' first
    | apply AW.seq | apply AW.region | apply AW.ret | apply AW.block | apply AW.skip | apply AW.exit | apply AW.scope | apply AW.label | apply AWL.nil
    | refine W.draw cy_mixed (by decide +kernel) ?_
    | ((first | (apply W.step cy_ok; decide) | (apply D.step cy_ok; decide; decide) | apply W.store cy_ok | (apply W.gS; rfl; decide) | apply AW.cond); (simp (disch := omega) only [push_cast, simprocAttr, natNe, List.mem_cons, List.not_mem_nil, TyD.isAgg, Nat.add_assoc, Bool.and_self, Bool.and_true, Bool.true_and, Bool.false_and, Bool.and_false, Bool.not_true, Bool.not_false, Bool.false_eq_true, beq_self_eq_true, List.map_nil, List.length_nil, hf3, hf5, St.back, rowAt_aftJ, idsL, idsA, List.cons_append, List.nil_append, List.append_nil, hf6, hf7, hF, gF] <;> rfl); all_goals try ((with_reducible intro hI); try first | (cases hI; done) | (simp only [INTS, not_true_eq_false] at hI; try first | (exfalso; omega) | (have hT : True := hI; clear hT hI))))
    | ((first | (apply W.callv cy_ok; decide) | (apply D.callv cy_ok; decide; decide)); (iterate 2 (simp (disch := omega) only [push_cast, simprocAttr, natNe, List.mem_cons, List.not_mem_nil, TyD.isAgg, Nat.add_assoc, Bool.and_self, Bool.and_true, Bool.true_and, Bool.false_and, Bool.and_false, Bool.not_true, Bool.not_false, Bool.false_eq_true, beq_self_eq_true, List.map_nil, List.length_nil, hf3, hf5, St.back, rowAt_aftJ, idsL, idsA, List.cons_append, List.nil_append, List.append_nil, hf6, hf7, hF, gF] <;> rfl)); (with_reducible first | exact hs | exact c1 | exact c2 | exact c3 | exact c4 | exact c5); try first | rfl | (simp (disch := omega) only [push_cast, simprocAttr, natNe, List.mem_cons, List.not_mem_nil, TyD.isAgg, Nat.add_assoc, Bool.and_self, Bool.and_true, Bool.true_and, Bool.false_and, Bool.and_false, Bool.not_true, Bool.not_false, Bool.false_eq_true, beq_self_eq_true, List.map_nil, List.length_nil, hf3, hf5, St.back, rowAt_aftJ, idsL, idsA, List.cons_append, List.nil_append, List.append_nil, hf6, hf7, hF, gF] <;> rfl))
    | ((first | apply W.ret1 | apply W.end1); (iterate 2 (try (simp (disch := omega) only [push_cast, simprocAttr, natNe, List.mem_cons, List.not_mem_nil, TyD.isAgg, Nat.add_assoc, Bool.and_self, Bool.and_true, Bool.true_and, Bool.false_and, Bool.and_false, Bool.not_true, Bool.not_false, Bool.false_eq_true, beq_self_eq_true, List.map_nil, List.length_nil, hf3, hf5, St.back, rowAt_aftJ, idsL, idsA, List.cons_append, List.nil_append, List.append_nil, hf6, hf7, hF, gF] <;> rfl))))

  all_goals (show _ = _; rfl)
theorem law6_ok (hs : OKv cy 7 [] (ab true)) (ms : List Mark) (text : ByteArray) : OKv cy 6 [lMark ms, at_ text] (ab true) := by
  have hf3 : ∀ x, flatA (.v x) = true := fun _ => rfl
  have hf5 : ∀ x y, flatA (.tup [.v x, .v y]) = true := fun _ _ => rfl
  have hf6 : ∀ l, flatA (.lst l) = false := fun _ => rfl
  have hf7 : ∀ l x, flatA (.tup [.lst l, .v x]) = false := fun _ _ => rfl
  by_cases h60 : 60 < (ms.length : Int)
  · have hT := eq_true h60
    refine OKat.of_body (rs := [4]) Tryz.func6 rfl (by decide +kernel) rfl (by simp [Tryz.ntmps6]) ?_
    simp only [Tryz.ntmps6]
    repeat' first
      | apply AW.seq | apply AW.region | apply AW.ret | apply AW.block | apply AW.skip | apply AW.exit | apply AW.scope | apply AW.label | apply AWL.nil
      | refine W.draw cy_mixed (by decide +kernel) ?_
      | ((first | (apply W.step cy_ok; decide) | (apply D.step cy_ok; decide; decide) | apply W.store cy_ok | (apply W.gS; rfl; decide) | apply AW.cond); (simp (disch := omega) only [push_cast, simprocAttr, natNe, List.mem_cons, List.not_mem_nil, TyD.isAgg, Nat.add_assoc, Bool.and_self, Bool.and_true, Bool.true_and, Bool.false_and, Bool.and_false, Bool.not_true, Bool.not_false, Bool.false_eq_true, beq_self_eq_true, List.map_nil, List.length_nil, hf3, hf5, St.back, rowAt_aftJ, idsL, idsA, List.cons_append, List.nil_append, List.append_nil, hf6, hf7, hT] <;> rfl); all_goals try ((with_reducible intro hI); try first | (cases hI; done) | (simp only [INTS, not_true_eq_false] at hI; try first | (exfalso; omega) | (have hT : True := hI; clear hT hI))))
      | ((first | (apply W.callv cy_ok; decide) | (apply D.callv cy_ok; decide; decide)); (iterate 2 (simp (disch := omega) only [push_cast, simprocAttr, natNe, List.mem_cons, List.not_mem_nil, TyD.isAgg, Nat.add_assoc, Bool.and_self, Bool.and_true, Bool.true_and, Bool.false_and, Bool.and_false, Bool.not_true, Bool.not_false, Bool.false_eq_true, beq_self_eq_true, List.map_nil, List.length_nil, hf3, hf5, St.back, rowAt_aftJ, idsL, idsA, List.cons_append, List.nil_append, List.append_nil, hf6, hf7, hT] <;> rfl)); (with_reducible first | exact hs); try first | rfl | (simp (disch := omega) only [push_cast, simprocAttr, natNe, List.mem_cons, List.not_mem_nil, TyD.isAgg, Nat.add_assoc, Bool.and_self, Bool.and_true, Bool.true_and, Bool.false_and, Bool.and_false, Bool.not_true, Bool.not_false, Bool.false_eq_true, beq_self_eq_true, List.map_nil, List.length_nil, hf3, hf5, St.back, rowAt_aftJ, idsL, idsA, List.cons_append, List.nil_append, List.append_nil, hf6, hf7, hT] <;> rfl))
      | ((first | apply W.ret1 | apply W.end1); (iterate 2 (try (simp (disch := omega) only [push_cast, simprocAttr, natNe, List.mem_cons, List.not_mem_nil, TyD.isAgg, Nat.add_assoc, Bool.and_self, Bool.and_true, Bool.true_and, Bool.false_and, Bool.and_false, Bool.not_true, Bool.not_false, Bool.false_eq_true, beq_self_eq_true, List.map_nil, List.length_nil, hf3, hf5, St.back, rowAt_aftJ, idsL, idsA, List.cons_append, List.nil_append, List.append_nil, hf6, hf7, hT] <;> rfl))))

    all_goals (show _ = _; rfl)
  have hF := eq_false h60
  by_cases h3 : 3000 < (text.size : Int)
  · have gT := eq_true h3
    refine OKat.of_body (rs := [4]) Tryz.func6 rfl (by decide +kernel) rfl (by simp [Tryz.ntmps6]) ?_
    simp only [Tryz.ntmps6]
    repeat' first
      | apply AW.seq | apply AW.region | apply AW.ret | apply AW.block | apply AW.skip | apply AW.exit | apply AW.scope | apply AW.label | apply AWL.nil
      | refine W.draw cy_mixed (by decide +kernel) ?_
      | ((first | (apply W.step cy_ok; decide) | (apply D.step cy_ok; decide; decide) | apply W.store cy_ok | (apply W.gS; rfl; decide) | apply AW.cond); (simp (disch := omega) only [push_cast, simprocAttr, natNe, List.mem_cons, List.not_mem_nil, TyD.isAgg, Nat.add_assoc, Bool.and_self, Bool.and_true, Bool.true_and, Bool.false_and, Bool.and_false, Bool.not_true, Bool.not_false, Bool.false_eq_true, beq_self_eq_true, List.map_nil, List.length_nil, hf3, hf5, St.back, rowAt_aftJ, idsL, idsA, List.cons_append, List.nil_append, List.append_nil, hf6, hf7, hF, gT] <;> rfl); all_goals try ((with_reducible intro hI); try first | (cases hI; done) | (simp only [INTS, not_true_eq_false] at hI; try first | (exfalso; omega) | (have hT : True := hI; clear hT hI))))
      | ((first | (apply W.callv cy_ok; decide) | (apply D.callv cy_ok; decide; decide)); (iterate 2 (simp (disch := omega) only [push_cast, simprocAttr, natNe, List.mem_cons, List.not_mem_nil, TyD.isAgg, Nat.add_assoc, Bool.and_self, Bool.and_true, Bool.true_and, Bool.false_and, Bool.and_false, Bool.not_true, Bool.not_false, Bool.false_eq_true, beq_self_eq_true, List.map_nil, List.length_nil, hf3, hf5, St.back, rowAt_aftJ, idsL, idsA, List.cons_append, List.nil_append, List.append_nil, hf6, hf7, hF, gT] <;> rfl)); (with_reducible first | exact hs); try first | rfl | (simp (disch := omega) only [push_cast, simprocAttr, natNe, List.mem_cons, List.not_mem_nil, TyD.isAgg, Nat.add_assoc, Bool.and_self, Bool.and_true, Bool.true_and, Bool.false_and, Bool.and_false, Bool.not_true, Bool.not_false, Bool.false_eq_true, beq_self_eq_true, List.map_nil, List.length_nil, hf3, hf5, St.back, rowAt_aftJ, idsL, idsA, List.cons_append, List.nil_append, List.append_nil, hf6, hf7, hF, gT] <;> rfl))
      | ((first | apply W.ret1 | apply W.end1); (iterate 2 (try (simp (disch := omega) only [push_cast, simprocAttr, natNe, List.mem_cons, List.not_mem_nil, TyD.isAgg, Nat.add_assoc, Bool.and_self, Bool.and_true, Bool.true_and, Bool.false_and, Bool.and_false, Bool.not_true, Bool.not_false, Bool.false_eq_true, beq_self_eq_true, List.map_nil, List.length_nil, hf3, hf5, St.back, rowAt_aftJ, idsL, idsA, List.cons_append, List.nil_append, List.append_nil, hf6, hf7, hF, gT] <;> rfl))))

    all_goals (show _ = _; rfl)
  have gF := eq_false h3
  have c1 := upv (Print_any ms (by omega))
  have c6 := Parse_ok text (by omega)
  unfold printF at c1
  rw [if_neg (by omega)] at c1
  by_cases hv : ms.all markV = true
  · rw [if_pos hv] at c1
    have hts := textB_size ms hv
    have c3 := Parse_ok (textB ms) (by omega)
    rw [parseF_good ⟨by omega, hv, rfl⟩] at c3
    have c5 := upv (SameMarks_same ms (by omega))
    rcases parseF_cases text with ⟨m, hm, hq⟩ | hq
    · rw [hq] at c6
      obtain ⟨m1, m2, m3⟩ := hm
      have c7 : OKv cy 22 [lMark m] (.tup [at_ text, ai 0]) := by
        have := upv (Print_any m (by omega))
        unfold printF at this
        rw [if_neg (by omega), if_pos m2, m3] at this
        exact this
      refine OKat.of_body (rs := [4]) Tryz.func6 rfl (by decide +kernel) rfl (by simp [Tryz.ntmps6]) ?_
      simp only [Tryz.ntmps6]
      repeat' first
        | apply AW.seq | apply AW.region | apply AW.ret | apply AW.block | apply AW.skip | apply AW.exit | apply AW.scope | apply AW.label | apply AWL.nil
        | refine W.draw cy_mixed (by decide +kernel) ?_
        | ((first | (apply W.step cy_ok; decide) | (apply D.step cy_ok; decide; decide) | apply W.store cy_ok | (apply W.gS; rfl; decide) | apply AW.cond); (simp (disch := omega) only [push_cast, simprocAttr, natNe, List.mem_cons, List.not_mem_nil, TyD.isAgg, Nat.add_assoc, Bool.and_self, Bool.and_true, Bool.true_and, Bool.false_and, Bool.and_false, Bool.not_true, Bool.not_false, Bool.false_eq_true, beq_self_eq_true, List.map_nil, List.length_nil, hf3, hf5, St.back, rowAt_aftJ, idsL, idsA, List.cons_append, List.nil_append, List.append_nil, hf6, hf7, hF, gF] <;> rfl); all_goals try ((with_reducible intro hI); try first | (cases hI; done) | (simp only [INTS, not_true_eq_false] at hI; try first | (exfalso; omega) | (have hT : True := hI; clear hT hI))))
        | ((first | (apply W.callv cy_ok; decide) | (apply D.callv cy_ok; decide; decide)); (iterate 2 (simp (disch := omega) only [push_cast, simprocAttr, natNe, List.mem_cons, List.not_mem_nil, TyD.isAgg, Nat.add_assoc, Bool.and_self, Bool.and_true, Bool.true_and, Bool.false_and, Bool.and_false, Bool.not_true, Bool.not_false, Bool.false_eq_true, beq_self_eq_true, List.map_nil, List.length_nil, hf3, hf5, St.back, rowAt_aftJ, idsL, idsA, List.cons_append, List.nil_append, List.append_nil, hf6, hf7, hF, gF] <;> rfl)); (with_reducible first | exact hs | exact c1 | exact c3 | exact c5 | exact c6 | exact c7); try first | rfl | (simp (disch := omega) only [push_cast, simprocAttr, natNe, List.mem_cons, List.not_mem_nil, TyD.isAgg, Nat.add_assoc, Bool.and_self, Bool.and_true, Bool.true_and, Bool.false_and, Bool.and_false, Bool.not_true, Bool.not_false, Bool.false_eq_true, beq_self_eq_true, List.map_nil, List.length_nil, hf3, hf5, St.back, rowAt_aftJ, idsL, idsA, List.cons_append, List.nil_append, List.append_nil, hf6, hf7, hF, gF] <;> rfl))
        | ((first | apply W.ret1 | apply W.end1); (iterate 2 (try (simp (disch := omega) only [push_cast, simprocAttr, natNe, List.mem_cons, List.not_mem_nil, TyD.isAgg, Nat.add_assoc, Bool.and_self, Bool.and_true, Bool.true_and, Bool.false_and, Bool.and_false, Bool.not_true, Bool.not_false, Bool.false_eq_true, beq_self_eq_true, List.map_nil, List.length_nil, hf3, hf5, St.back, rowAt_aftJ, idsL, idsA, List.cons_append, List.nil_append, List.append_nil, hf6, hf7, hF, gF] <;> rfl))))

      all_goals (show _ = _; rfl)
    · rw [hq] at c6
      refine OKat.of_body (rs := [4]) Tryz.func6 rfl (by decide +kernel) rfl (by simp [Tryz.ntmps6]) ?_
      simp only [Tryz.ntmps6]
      repeat' first
        | apply AW.seq | apply AW.region | apply AW.ret | apply AW.block | apply AW.skip | apply AW.exit | apply AW.scope | apply AW.label | apply AWL.nil
        | refine W.draw cy_mixed (by decide +kernel) ?_
        | ((first | (apply W.step cy_ok; decide) | (apply D.step cy_ok; decide; decide) | apply W.store cy_ok | (apply W.gS; rfl; decide) | apply AW.cond); (simp (disch := omega) only [push_cast, simprocAttr, natNe, List.mem_cons, List.not_mem_nil, TyD.isAgg, Nat.add_assoc, Bool.and_self, Bool.and_true, Bool.true_and, Bool.false_and, Bool.and_false, Bool.not_true, Bool.not_false, Bool.false_eq_true, beq_self_eq_true, List.map_nil, List.length_nil, hf3, hf5, St.back, rowAt_aftJ, idsL, idsA, List.cons_append, List.nil_append, List.append_nil, hf6, hf7, hF, gF] <;> rfl); all_goals try ((with_reducible intro hI); try first | (cases hI; done) | (simp only [INTS, not_true_eq_false] at hI; try first | (exfalso; omega) | (have hT : True := hI; clear hT hI))))
        | ((first | (apply W.callv cy_ok; decide) | (apply D.callv cy_ok; decide; decide)); (iterate 2 (simp (disch := omega) only [push_cast, simprocAttr, natNe, List.mem_cons, List.not_mem_nil, TyD.isAgg, Nat.add_assoc, Bool.and_self, Bool.and_true, Bool.true_and, Bool.false_and, Bool.and_false, Bool.not_true, Bool.not_false, Bool.false_eq_true, beq_self_eq_true, List.map_nil, List.length_nil, hf3, hf5, St.back, rowAt_aftJ, idsL, idsA, List.cons_append, List.nil_append, List.append_nil, hf6, hf7, hF, gF] <;> rfl)); (with_reducible first | exact hs | exact c1 | exact c3 | exact c5 | exact c6); try first | rfl | (simp (disch := omega) only [push_cast, simprocAttr, natNe, List.mem_cons, List.not_mem_nil, TyD.isAgg, Nat.add_assoc, Bool.and_self, Bool.and_true, Bool.true_and, Bool.false_and, Bool.and_false, Bool.not_true, Bool.not_false, Bool.false_eq_true, beq_self_eq_true, List.map_nil, List.length_nil, hf3, hf5, St.back, rowAt_aftJ, idsL, idsA, List.cons_append, List.nil_append, List.append_nil, hf6, hf7, hF, gF] <;> rfl))
        | ((first | apply W.ret1 | apply W.end1); (iterate 2 (try (simp (disch := omega) only [push_cast, simprocAttr, natNe, List.mem_cons, List.not_mem_nil, TyD.isAgg, Nat.add_assoc, Bool.and_self, Bool.and_true, Bool.true_and, Bool.false_and, Bool.and_false, Bool.not_true, Bool.not_false, Bool.false_eq_true, beq_self_eq_true, List.map_nil, List.length_nil, hf3, hf5, St.back, rowAt_aftJ, idsL, idsA, List.cons_append, List.nil_append, List.append_nil, hf6, hf7, hF, gF] <;> rfl))))

      all_goals (show _ = _; rfl)
  · rw [if_neg hv] at c1
    rcases parseF_cases text with ⟨m, hm, hq⟩ | hq
    · rw [hq] at c6
      obtain ⟨m1, m2, m3⟩ := hm
      have c7 : OKv cy 22 [lMark m] (.tup [at_ text, ai 0]) := by
        have := upv (Print_any m (by omega))
        unfold printF at this
        rw [if_neg (by omega), if_pos m2, m3] at this
        exact this
      refine OKat.of_body (rs := [4]) Tryz.func6 rfl (by decide +kernel) rfl (by simp [Tryz.ntmps6]) ?_
      simp only [Tryz.ntmps6]
      repeat' first
        | apply AW.seq | apply AW.region | apply AW.ret | apply AW.block | apply AW.skip | apply AW.exit | apply AW.scope | apply AW.label | apply AWL.nil
        | refine W.draw cy_mixed (by decide +kernel) ?_
        | ((first | (apply W.step cy_ok; decide) | (apply D.step cy_ok; decide; decide) | apply W.store cy_ok | (apply W.gS; rfl; decide) | apply AW.cond); (simp (disch := omega) only [push_cast, simprocAttr, natNe, List.mem_cons, List.not_mem_nil, TyD.isAgg, Nat.add_assoc, Bool.and_self, Bool.and_true, Bool.true_and, Bool.false_and, Bool.and_false, Bool.not_true, Bool.not_false, Bool.false_eq_true, beq_self_eq_true, List.map_nil, List.length_nil, hf3, hf5, St.back, rowAt_aftJ, idsL, idsA, List.cons_append, List.nil_append, List.append_nil, hf6, hf7, hF, gF] <;> rfl); all_goals try ((with_reducible intro hI); try first | (cases hI; done) | (simp only [INTS, not_true_eq_false] at hI; try first | (exfalso; omega) | (have hT : True := hI; clear hT hI))))
        | ((first | (apply W.callv cy_ok; decide) | (apply D.callv cy_ok; decide; decide)); (iterate 2 (simp (disch := omega) only [push_cast, simprocAttr, natNe, List.mem_cons, List.not_mem_nil, TyD.isAgg, Nat.add_assoc, Bool.and_self, Bool.and_true, Bool.true_and, Bool.false_and, Bool.and_false, Bool.not_true, Bool.not_false, Bool.false_eq_true, beq_self_eq_true, List.map_nil, List.length_nil, hf3, hf5, St.back, rowAt_aftJ, idsL, idsA, List.cons_append, List.nil_append, List.append_nil, hf6, hf7, hF, gF] <;> rfl)); (with_reducible first | exact hs | exact c1 | exact c6 | exact c7); try first | rfl | (simp (disch := omega) only [push_cast, simprocAttr, natNe, List.mem_cons, List.not_mem_nil, TyD.isAgg, Nat.add_assoc, Bool.and_self, Bool.and_true, Bool.true_and, Bool.false_and, Bool.and_false, Bool.not_true, Bool.not_false, Bool.false_eq_true, beq_self_eq_true, List.map_nil, List.length_nil, hf3, hf5, St.back, rowAt_aftJ, idsL, idsA, List.cons_append, List.nil_append, List.append_nil, hf6, hf7, hF, gF] <;> rfl))
        | ((first | apply W.ret1 | apply W.end1); (iterate 2 (try (simp (disch := omega) only [push_cast, simprocAttr, natNe, List.mem_cons, List.not_mem_nil, TyD.isAgg, Nat.add_assoc, Bool.and_self, Bool.and_true, Bool.true_and, Bool.false_and, Bool.and_false, Bool.not_true, Bool.not_false, Bool.false_eq_true, beq_self_eq_true, List.map_nil, List.length_nil, hf3, hf5, St.back, rowAt_aftJ, idsL, idsA, List.cons_append, List.nil_append, List.append_nil, hf6, hf7, hF, gF] <;> rfl))))

      all_goals (show _ = _; rfl)
    · rw [hq] at c6
      refine OKat.of_body (rs := [4]) Tryz.func6 rfl (by decide +kernel) rfl (by simp [Tryz.ntmps6]) ?_
      simp only [Tryz.ntmps6]
      repeat' first
        | apply AW.seq | apply AW.region | apply AW.ret | apply AW.block | apply AW.skip | apply AW.exit | apply AW.scope | apply AW.label | apply AWL.nil
        | refine W.draw cy_mixed (by decide +kernel) ?_
        | ((first | (apply W.step cy_ok; decide) | (apply D.step cy_ok; decide; decide) | apply W.store cy_ok | (apply W.gS; rfl; decide) | apply AW.cond); (simp (disch := omega) only [push_cast, simprocAttr, natNe, List.mem_cons, List.not_mem_nil, TyD.isAgg, Nat.add_assoc, Bool.and_self, Bool.and_true, Bool.true_and, Bool.false_and, Bool.and_false, Bool.not_true, Bool.not_false, Bool.false_eq_true, beq_self_eq_true, List.map_nil, List.length_nil, hf3, hf5, St.back, rowAt_aftJ, idsL, idsA, List.cons_append, List.nil_append, List.append_nil, hf6, hf7, hF, gF] <;> rfl); all_goals try ((with_reducible intro hI); try first | (cases hI; done) | (simp only [INTS, not_true_eq_false] at hI; try first | (exfalso; omega) | (have hT : True := hI; clear hT hI))))
        | ((first | (apply W.callv cy_ok; decide) | (apply D.callv cy_ok; decide; decide)); (iterate 2 (simp (disch := omega) only [push_cast, simprocAttr, natNe, List.mem_cons, List.not_mem_nil, TyD.isAgg, Nat.add_assoc, Bool.and_self, Bool.and_true, Bool.true_and, Bool.false_and, Bool.and_false, Bool.not_true, Bool.not_false, Bool.false_eq_true, beq_self_eq_true, List.map_nil, List.length_nil, hf3, hf5, St.back, rowAt_aftJ, idsL, idsA, List.cons_append, List.nil_append, List.append_nil, hf6, hf7, hF, gF] <;> rfl)); (with_reducible first | exact hs | exact c1 | exact c6); try first | rfl | (simp (disch := omega) only [push_cast, simprocAttr, natNe, List.mem_cons, List.not_mem_nil, TyD.isAgg, Nat.add_assoc, Bool.and_self, Bool.and_true, Bool.true_and, Bool.false_and, Bool.and_false, Bool.not_true, Bool.not_false, Bool.false_eq_true, beq_self_eq_true, List.map_nil, List.length_nil, hf3, hf5, St.back, rowAt_aftJ, idsL, idsA, List.cons_append, List.nil_append, List.append_nil, hf6, hf7, hF, gF] <;> rfl))
        | ((first | apply W.ret1 | apply W.end1); (iterate 2 (try (simp (disch := omega) only [push_cast, simprocAttr, natNe, List.mem_cons, List.not_mem_nil, TyD.isAgg, Nat.add_assoc, Bool.and_self, Bool.and_true, Bool.true_and, Bool.false_and, Bool.and_false, Bool.not_true, Bool.not_false, Bool.false_eq_true, beq_self_eq_true, List.map_nil, List.length_nil, hf3, hf5, St.back, rowAt_aftJ, idsL, idsA, List.cons_append, List.nil_append, List.append_nil, hf6, hf7, hF, gF] <;> rfl))))

      all_goals (show _ = _; rfl)
end Go.Proofs.Dz
