/-
  Contracts of functions, proved by going through their code. No conditions.
-/
import Derived.Test.YtdlflcambboojaaKaa
import Derived.Test.YtdlflcambboojaaKbe
import Derived.Test.YtdlflcambboojaaKbf
import Derived.Test.YtdlflcambboojaaKuG
import Derived.Test.YtdlflcambboojaaLwA
set_option linter.unusedVariables false
set_option linter.unusedSimpArgs false
set_option maxHeartbeats 8000000
set_option maxRecDepth 10000
namespace Go.Proofs.Ks
open Go Go.Pg Go.Proofs
theorem law13_bad (r : Rec) (E : Int) (hE : E ≠ 0) (csm : OKv cx 19 [.agg (eRec r)] (ab true)) (c22 : OKv cx 22 [.agg (eRec r)] (ai E)) (c59 : OKv cx 59 [.agg (eRec r)] (.tup [.lst [], ai E])) (c34 : OKv cx 34 [.agg (eRec r)] (.tup [.lst [], ai E])) (c36 : OKv cx 36 [.agg (eRec r)] (.tup [.agg (eSpan ⟨0, 0⟩), ai E])) (c60 : OKv cx 60 [.agg (eRec r)] (.tup [.agg (eSpan ⟨0, 0⟩), ai E])) (c56 : OKv cx 56 [.agg (eRec r)] (.tup [.lst [], ai E])) (c61 : OKv cx 61 [.agg (eRec r)] (.tup [.lst [], ai E])) : OKv cx 13 [.agg (eRec r)] (ab true) := by
  have c20 := sanity_ok
  have hEF : (E = 0) = False := eq_false hE
  refine OKat.of_body (rs := [2]) Try.func13 rfl (by decide +kernel) rfl (by simp [Try.ntmps13]) ?_
  simp only [Try.ntmps13]
  repeat' first
    | apply jA | apply jB | apply jC | apply jD | apply jE | apply jF | apply jG | apply jH | apply jI | apply jJ
    | refine W.draw cx_mixed (by decide +kernel) ?_
    | ((first | (apply jK cx_ok; decide) | (apply jL cx_ok; decide; decide) | apply jM cx_ok | (apply jN; rfl; decide) | (apply jO; rfl; decide; decide) | apply jR); (simp (maxSteps := 1000000) (disch := omega) only [push_cast, simprocAttr, hEF, natNe, List.mem_cons, List.not_mem_nil, TyD.isAgg, Nat.add_assoc, Bool.false_eq_true, Bool.true_and, Bool.and_true, beq_self_eq_true, Bool.and_self, Bool.not_true, List.map_nil, List.length_nil] <;> rfl); all_goals try ((with_reducible intro hI); try first | (cases hI; done) | (simp only [INTS, zL] at hI; try first | (exfalso; omega) | (have hT : True := hI; clear hT hI))))
    | ((first | (apply jV cx_ok; decide) | (apply jW cx_ok; decide; decide)); (iterate 2 (simp (maxSteps := 1000000) (disch := omega) only [push_cast, simprocAttr, hEF, natNe, List.mem_cons, List.not_mem_nil, TyD.isAgg, Nat.add_assoc, Bool.false_eq_true, Bool.true_and, Bool.and_true, beq_self_eq_true, Bool.and_self, Bool.not_true, List.map_nil, List.length_nil] <;> rfl)); (with_reducible first | exact csm | exact c20 | exact c22 | exact c59 | exact c34 | exact c36 | exact c60 | exact c56 | exact c61); try first | rfl | (simp (maxSteps := 1000000) (disch := omega) only [push_cast, simprocAttr, hEF, natNe, List.mem_cons, List.not_mem_nil, TyD.isAgg, Nat.add_assoc, Bool.false_eq_true, Bool.true_and, Bool.and_true, beq_self_eq_true, Bool.and_self, Bool.not_true, List.map_nil, List.length_nil] <;> rfl))
    | ((first | apply jf | apply jg); (iterate 2 (try (simp (maxSteps := 1000000) (disch := omega) only [push_cast, simprocAttr, hEF, natNe, List.mem_cons, List.not_mem_nil, TyD.isAgg, Nat.add_assoc, Bool.false_eq_true, Bool.true_and, Bool.and_true, beq_self_eq_true, Bool.and_self, Bool.not_true, List.map_nil, List.length_nil] <;> rfl))))

  all_goals (show _ = _; rfl)
theorem law13_ok (r : Rec) : OKv cx 13 [.agg (eRec r)] (ab true) := by
  have csm := small_ok r
  have c20 := sanity_ok
  cases hsm : smallB r with
  | false =>
    rw [hsm] at csm
    refine OKat.of_body (rs := [2]) Try.func13 rfl (by decide +kernel) rfl (by simp [Try.ntmps13]) ?_
    simp only [Try.ntmps13]
    repeat' first
      | apply jA | apply jB | apply jC | apply jD | apply jE | apply jF | apply jG | apply jH | apply jI | apply jJ
      | refine W.draw cx_mixed (by decide +kernel) ?_
      | ((first | (apply jK cx_ok; decide) | (apply jL cx_ok; decide; decide) | apply jM cx_ok | (apply jN; rfl; decide) | (apply jO; rfl; decide; decide) | apply jR); (simp (disch := omega) only [push_cast, simprocAttr] <;> rfl); all_goals try ((with_reducible intro hI); try first | (cases hI; done) | (simp only [INTS, zL] at hI; try first | (exfalso; omega) | (have hT : True := hI; clear hT hI))))
      | ((first | (apply jV cx_ok; decide) | (apply jW cx_ok; decide; decide)); (iterate 2 (simp (disch := omega) only [push_cast, simprocAttr] <;> rfl)); (with_reducible first | exact csm | exact c20); try first | rfl | (simp (disch := omega) only [push_cast, simprocAttr] <;> rfl))
      | ((first | apply jf | apply jg); (iterate 2 (try (simp (disch := omega) only [push_cast, simprocAttr] <;> rfl))))

    all_goals (show _ = _; rfl)
  | true =>
    rw [hsm] at csm
    have c22 := state_ok r
    rcases solved0 r with ⟨hc, hs⟩ | ⟨hc, hq, hs⟩ | ⟨hc, hq, hs⟩
    · have e1 : stateE r = checkE r := by unfold stateE; rw [if_neg hc]
      have e2 : eventP r 1 = (⟨0, 0⟩, checkE r) := by unfold eventP; rw [if_neg hc]
      have e3 : eventP r 2 = (⟨0, 0⟩, checkE r) := by unfold eventP; rw [if_neg hc]
      have c36 := Inserted_ok r
      have c60 := Removed_ok r
      rw [e1] at c22
      rw [e2] at c36
      rw [e3] at c60
      exact law13_bad r _ hc csm c22 (Tight_err r _ hc hs) (Spans_err r _ hc hs) c36 c60 (First_err r _ hc hs) (Last_err r _ hc hs)
    · have e1 : stateE r = 9 := by rw [stateE_eq hc, hq]; rfl
      have e2 : eventP r 1 = (⟨0, 0⟩, 9) := by unfold eventP; rw [if_pos hc, hq]; rfl
      have e3 : eventP r 2 = (⟨0, 0⟩, 9) := by unfold eventP; rw [if_pos hc, hq]; rfl
      have c36 := Inserted_ok r
      have c60 := Removed_ok r
      rw [e1] at c22
      rw [e2] at c36
      rw [e3] at c60
      exact law13_bad r 9 (by decide) csm c22 (Tight_err r 9 (by decide) hs) (Spans_err r 9 (by decide) hs) c36 c60 (First_err r 9 (by decide) hs) (Last_err r 9 (by decide) hs)
    · have e1 : stateE r = 0 := by rw [stateE_eq hc, hq]; rfl
      have e2 : eventP r 1 = (spanF (nodesR r []) (linksR r []) 0 1, 0) := by unfold eventP; rw [if_pos hc, hq, if_pos rfl]
      have e3 : eventP r 2 = (spanF (nodesR r []) (linksR r []) 0 2, 0) := by unfold eventP; rw [if_pos hc, hq, if_pos rfl]
      have hln := nodesR_len r []
      have hns := (checkE_V hc).nstrikes
      have c36 := Inserted_ok r
      have c60 := Removed_ok r
      rw [e1] at c22
      rw [e2] at c36
      rw [e3] at c60
      have c59 := Tight_good r hc hq
      have c34 := Spans_good r hc hq
      have c56 := First_good r hc hq
      have c61 := Last_good r hc hq
      have c62 := (tight_facts hc hq).1
      have hn100 := (tight_facts hc hq).2.2
      have c63 := RSpans_ok r hc hq
      have c64a : OKv cx 64 [.agg (eRec r), ai 1] (.agg (eSpan (spanF (nodesR r []) (linksR r []) 0 1))) := RSpanOf_ok r 1 hc hq (by omega)
      have c64b : OKv cx 64 [.agg (eRec r), ai 2] (.agg (eSpan (spanF (nodesR r []) (linksR r []) 0 2))) := RSpanOf_ok r 2 hc hq (by omega)
      have hsl : (spansP r).length = r.strikes.length := by unfold spansP; simp
      have c37 := SameSpans_ok (spansP r) (spansP r) (by omega) (by omega)
      rw [decide_eq_true rfl] at c37
      have hrows := fun k hk => bounds_rows hc hq (k := k) hk
      have q1 := tightP_len r
      have q2 := firstP_len r
      have q3 := lastP_len hc hq
      obtain ⟨TT, hTT⟩ : ∃ z, tightP r = z := ⟨_, rfl⟩
      obtain ⟨FF, hFF⟩ : ∃ z, firstP r = z := ⟨_, rfl⟩
      obtain ⟨LL, hLL⟩ : ∃ z, lastP r = z := ⟨_, rfl⟩
      obtain ⟨SS, hSS⟩ : ∃ z, spansP r = z := ⟨_, rfl⟩
      obtain ⟨S1, hS1⟩ : ∃ z, spanF (nodesR r []) (linksR r []) 0 1 = z := ⟨_, rfl⟩
      obtain ⟨S2, hS2⟩ : ∃ z, spanF (nodesR r []) (linksR r []) 0 2 = z := ⟨_, rfl⟩
      rw [hTT, hFF, hLL] at hrows
      rw [hTT] at c59 c62 q1
      rw [hFF] at c56 q2
      rw [hLL] at c61 q3
      rw [hSS] at c34 c63 c37
      rw [hS1] at c36 c64a
      rw [hS2] at c60 c64b
      obtain ⟨NN, hNN⟩ : ∃ z, (nodesR r []).length = z := ⟨_, rfl⟩
      rw [hNN] at hrows q1 q2 q3 hn100
      have hlf : ((FF.length : Int) = (TT.length : Int)) = True := eq_true (by omega)
      have hll : ((LL.length : Int) = (TT.length : Int)) = True := eq_true (by omega)
      clear hTT hFF hLL hSS hS1 hS2 e1 e2 e3
      refine OKat.of_body (rs := [2]) Try.func13 rfl (by decide +kernel) rfl (by simp [Try.ntmps13]) ?_
      simp only [Try.ntmps13]
      repeat' first
        | apply jA | apply jB | apply jC | apply jD | apply jE | apply jF | apply jG | apply jH | apply jI | apply jJ
        | refine W.draw cx_mixed (by decide +kernel) ?_
        | ((first | (apply jK cx_ok; decide) | (apply jL cx_ok; decide; decide) | apply jM cx_ok | (apply jN; rfl; decide) | (apply jO; rfl; decide; decide) | apply jR); (simp (maxSteps := 1000000) (disch := omega) only [push_cast, simprocAttr, hlf, hll, natNe, List.mem_cons, List.not_mem_nil, TyD.isAgg, Nat.add_assoc, Bool.false_eq_true, Bool.true_and, Bool.and_true, beq_self_eq_true, Bool.and_self, Bool.not_true, List.map_nil, List.length_nil] <;> rfl); all_goals try ((with_reducible intro hI); try first | (cases hI; done) | (simp only [INTS, zL] at hI; try first | (exfalso; omega) | (have hT : True := hI; clear hT hI))))
        | ((first | (apply jV cx_ok; decide) | (apply jW cx_ok; decide; decide)); (iterate 2 (simp (maxSteps := 1000000) (disch := omega) only [push_cast, simprocAttr, hlf, hll, natNe, List.mem_cons, List.not_mem_nil, TyD.isAgg, Nat.add_assoc, Bool.false_eq_true, Bool.true_and, Bool.and_true, beq_self_eq_true, Bool.and_self, Bool.not_true, List.map_nil, List.length_nil] <;> rfl)); (with_reducible first | exact csm | exact c20 | exact c22 | exact c59 | exact c34 | exact c36 | exact c60 | exact c56 | exact c61 | exact c62); try first | rfl | (simp (maxSteps := 1000000) (disch := omega) only [push_cast, simprocAttr, hlf, hll, natNe, List.mem_cons, List.not_mem_nil, TyD.isAgg, Nat.add_assoc, Bool.false_eq_true, Bool.true_and, Bool.and_true, beq_self_eq_true, Bool.and_self, Bool.not_true, List.map_nil, List.length_nil] <;> rfl))
        | ((first | apply jf | apply jg); (iterate 2 (try (simp (maxSteps := 1000000) (disch := omega) only [push_cast, simprocAttr, hlf, hll, natNe, List.mem_cons, List.not_mem_nil, TyD.isAgg, Nat.add_assoc, Bool.false_eq_true, Bool.true_and, Bool.and_true, beq_self_eq_true, Bool.and_self, Bool.not_true, List.map_nil, List.length_nil] <;> rfl))))

      refine AW.loop (fun n s => ∃ (k : Nat), n = TT.length - k ∧ (k ≤ TT.length) ∧ 3 ≤ s.nx ∧ s.tm 1 = .ptr 0 0 0 1 ∧ s.tm 4 = encM TT ∧ s.tm 6 = lSpan SS ∧ s.tm 8 = .ptr 1 0 0 1 ∧ s.tm 10 = .ptr 2 0 0 1 ∧ s.tm 12 = lInt FF ∧ s.tm 14 = lInt LL ∧ s.tm 16 = encM TT ∧ s.tm 18 = ai k ∧ Pg.rowAt s.H (0) = some ({ k := 14, es := [eRec r], ty := 30 }) ∧ Pg.rowAt s.H (1) = some ({ k := 2, es := [eSpan S1], ty := 23 }) ∧ Pg.rowAt s.H (2) = some ({ k := 2, es := [eSpan S2], ty := 23 })) (TT.length) ⟨0, rfl, (Nat.zero_le _), ?_, ?_, ?_, ?_, ?_, ?_, ?_, ?_, ?_, ?_, ?_, ?_, ?_⟩ ?_
      iterate 13 (first | (simp (disch := omega) only [push_cast, simprocAttr, natNe, zI, zG, zJ, zM, Bool.true_and, zO, beq_self_eq_true, zP, Bool.not_true, zW, zC, hlf, hll] <;> first | rfl | omega) | omega)
      rintro n0 s0 ⟨k0, hn0, hp00, hnl0, hS0⟩
      have hZ0 : (0 : Nat) ≠ s0.nx ∧ s0.nx ≠ (0 : Nat) ∧ (1 : Nat) ≠ s0.nx ∧ s0.nx ≠ (1 : Nat) ∧ (2 : Nat) ≠ s0.nx ∧ s0.nx ≠ (2 : Nat) := by omega
      by_cases hk : k0 < TT.length
      rotate_left
      · have hkI : ¬ (k0 : Int) < (TT.length : Int) := by omega
        repeat' first
          | apply jA | apply jB | apply jC | apply jD | apply jE | apply jF | apply jG | apply jH | apply jI | apply jJ
          | refine W.draw cx_mixed (by decide +kernel) ?_
          | ((first | (apply jK cx_ok; decide) | (apply jL cx_ok; decide; decide) | apply jM cx_ok | (apply jN; rfl; decide) | (apply jO; rfl; decide; decide) | apply jR); (simp (maxSteps := 1000000) (disch := omega) only [push_cast, simprocAttr, hS0, hZ0, hkI, natNe, List.mem_cons, List.not_mem_nil, TyD.isAgg, Nat.add_assoc, Bool.false_eq_true, Bool.true_and, Bool.and_true, beq_self_eq_true, Bool.and_self, Bool.not_true, List.map_nil, List.length_nil] <;> rfl); all_goals try ((with_reducible intro hI); try first | (cases hI; done) | (simp only [INTS, zL] at hI; try first | (exfalso; omega) | (have hT : True := hI; clear hT hI))))
          | ((first | (apply jV cx_ok; decide) | (apply jW cx_ok; decide; decide)); (iterate 2 (simp (maxSteps := 1000000) (disch := omega) only [push_cast, simprocAttr, hS0, hZ0, hkI, natNe, List.mem_cons, List.not_mem_nil, TyD.isAgg, Nat.add_assoc, Bool.false_eq_true, Bool.true_and, Bool.and_true, beq_self_eq_true, Bool.and_self, Bool.not_true, List.map_nil, List.length_nil] <;> rfl)); (with_reducible first | exact c20 | exact c63 | exact c64a | exact c64b | exact c37); try first | rfl | (simp (maxSteps := 1000000) (disch := omega) only [push_cast, simprocAttr, hS0, hZ0, hkI, natNe, List.mem_cons, List.not_mem_nil, TyD.isAgg, Nat.add_assoc, Bool.false_eq_true, Bool.true_and, Bool.and_true, beq_self_eq_true, Bool.and_self, Bool.not_true, List.map_nil, List.length_nil] <;> rfl))
          | ((first | apply jf | apply jg); (iterate 2 (try (simp (maxSteps := 1000000) (disch := omega) only [push_cast, simprocAttr, hS0, hZ0, hkI, natNe, List.mem_cons, List.not_mem_nil, TyD.isAgg, Nat.add_assoc, Bool.false_eq_true, Bool.true_and, Bool.and_true, beq_self_eq_true, Bool.and_self, Bool.not_true, List.map_nil, List.length_nil] <;> rfl))))

        all_goals (show _ = _; rfl)
      have hkI : (k0 : Int) < (TT.length : Int) := by omega
      have hlI0 : (0 : Int) < (TT.length : Int) := by omega
      obtain ⟨row, row0, a, b, t1, t2, t3, t4, t5, t6, t7, t8, t9, t10⟩ := hrows k0 (by omega)
      have c51 := SameInts_ok row row (by omega) (by omega)
      rw [decide_eq_true rfl] at c51
      have hl0 : (0 : Int) < (row.length : Int) := by omega
      have hlr : (k0 : Int) < (row0.length : Int) := by omega
      have hlf2 : (k0 : Int) < (FF.length : Int) := by omega
      have hll2 : (k0 : Int) < (LL.length : Int) := by omega
      have u1 : (TT.map fun row => [lInt row])[k0]? = some [lInt row] := by rw [List.getElem?_map, t1]; rfl
      have u2 : (TT.map fun row => [lInt row]).getD k0 [] = [lInt row] := by rw [List.getD_eq_getElem?_getD, u1]; rfl
      have u3 : (TT.map fun row => [lInt row])[0]? = some [lInt row0] := by rw [List.getElem?_map, t2]; rfl
      have u4 : (TT.map fun row => [lInt row]).getD 0 [] = [lInt row0] := by rw [List.getD_eq_getElem?_getD, u3]; rfl
      have v1 : (row.map eInt)[0]? = some (eInt a) := by rw [List.getElem?_map, t3]; rfl
      have v2 : (row.map eInt).getD 0 [] = eInt a := by rw [List.getD_eq_getElem?_getD, v1]; rfl
      have v3 : (row0.map eInt)[k0]? = some (eInt b) := by rw [List.getElem?_map, t4]; rfl
      have v4 : (row0.map eInt).getD k0 [] = eInt b := by rw [List.getD_eq_getElem?_getD, v3]; rfl
      have w1 : (FF.map eInt)[k0]? = some (eInt (-a)) := by rw [List.getElem?_map, t5]; rfl
      have w2 : (FF.map eInt).getD k0 [] = eInt (-a) := by rw [List.getD_eq_getElem?_getD, w1]; rfl
      have x1 : (LL.map eInt)[k0]? = some (eInt b) := by rw [List.getElem?_map, t6]; rfl
      have x2 : (LL.map eInt).getD k0 [] = eInt b := by rw [List.getD_eq_getElem?_getD, x1]; rfl
      repeat' first
        | apply jA | apply jB | apply jC | apply jD | apply jE | apply jF | apply jG | apply jH | apply jI | apply jJ
        | refine W.draw cx_mixed (by decide +kernel) ?_
        | ((first | (apply jK cx_ok; decide) | (apply jL cx_ok; decide; decide) | apply jM cx_ok | (apply jN; rfl; decide) | (apply jO; rfl; decide; decide) | apply jR); (simp (maxSteps := 1000000) (disch := omega) only [push_cast, simprocAttr, hS0, hZ0, hkI, hlI0, hlf2, hll2, hl0, hlr, u1, u2, u3, u4, v1, v2, v3, v4, w1, w2, x1, x2, Int.zero_sub, natNe, List.mem_cons, List.not_mem_nil, TyD.isAgg, Nat.add_assoc, Bool.false_eq_true, Bool.true_and, Bool.and_true, beq_self_eq_true, Bool.and_self, Bool.not_true, List.map_nil, List.length_nil] <;> rfl); all_goals try ((with_reducible intro hI); try first | (cases hI; done) | (simp only [INTS, zL] at hI; try first | (exfalso; omega) | (have hT : True := hI; clear hT hI))))
        | ((first | (apply jV cx_ok; decide) | (apply jW cx_ok; decide; decide)); (iterate 2 (simp (maxSteps := 1000000) (disch := omega) only [push_cast, simprocAttr, hS0, hZ0, hkI, hlI0, hlf2, hll2, hl0, hlr, u1, u2, u3, u4, v1, v2, v3, v4, w1, w2, x1, x2, Int.zero_sub, natNe, List.mem_cons, List.not_mem_nil, TyD.isAgg, Nat.add_assoc, Bool.false_eq_true, Bool.true_and, Bool.and_true, beq_self_eq_true, Bool.and_self, Bool.not_true, List.map_nil, List.length_nil] <;> rfl)); (with_reducible first | exact c51); try first | rfl | (simp (maxSteps := 1000000) (disch := omega) only [push_cast, simprocAttr, hS0, hZ0, hkI, hlI0, hlf2, hll2, hl0, hlr, u1, u2, u3, u4, v1, v2, v3, v4, w1, w2, x1, x2, Int.zero_sub, natNe, List.mem_cons, List.not_mem_nil, TyD.isAgg, Nat.add_assoc, Bool.false_eq_true, Bool.true_and, Bool.and_true, beq_self_eq_true, Bool.and_self, Bool.not_true, List.map_nil, List.length_nil] <;> rfl))
        | ((first | apply jf | apply jg); (iterate 2 (try (simp (maxSteps := 1000000) (disch := omega) only [push_cast, simprocAttr, hS0, hZ0, hkI, hlI0, hlf2, hll2, hl0, hlr, u1, u2, u3, u4, v1, v2, v3, v4, w1, w2, x1, x2, Int.zero_sub, natNe, List.mem_cons, List.not_mem_nil, TyD.isAgg, Nat.add_assoc, Bool.false_eq_true, Bool.true_and, Bool.and_true, beq_self_eq_true, Bool.and_self, Bool.not_true, List.map_nil, List.length_nil] <;> rfl))))

      all_goals first
        | (exfalso; omega)
        | (refine ⟨TT.length - (k0 + 1), ?_, k0 + 1, rfl, (by omega), ?_, ?_, ?_, ?_, ?_, ?_, ?_, ?_, ?_, ?_, ?_, ?_, ?_⟩; (omega); all_goals first | (simp (disch := omega) only [push_cast, simprocAttr, hS0, hZ0, natNe, zI, zG, zJ, zM, Bool.true_and, zO, beq_self_eq_true, zP, Bool.not_true, zW, zC, hkI] <;> first | rfl | omega) | omega)
end Go.Proofs.Ks
