/-
  Contracts of functions, proved by going through their code. No conditions.
-/
import Derived.Test.YtdlflcambboojaaKaa
import Derived.Test.YtdlflcambboojaaKbf
import Derived.Test.YtdlflcambboojaaKlX
import Derived.Test.YtdlflcambboojaaKuC
set_option linter.unusedVariables false
set_option linter.unusedSimpArgs false
set_option maxHeartbeats 8000000
set_option maxRecDepth 10000
namespace Go.Proofs.Ks
open Go Go.Pg Go.Proofs
theorem Within_true (a b : Span) (h1 : b.lo ≤ a.lo) (h2 : a.hi ≤ b.hi) : OKv cx 35 [.agg (eSpan a), .agg (eSpan b)] (ab true) := by
  refine OKat.of_body (rs := [4]) Try.func35 rfl (by decide +kernel) rfl (by simp [Try.ntmps35]) ?_
  simp only [Try.ntmps35]
  repeat' first
    | apply jA | apply jB | apply jC | apply jD | apply jE | apply jF | apply jG | apply jH | apply jI
    | ((first | (apply jK cx_ok; decide) | (apply jN; rfl; decide) | apply jR); (simp (disch := omega) only [push_cast, simprocAttr, natNe, zI, zG, zJ, h1, h2] <;> rfl); all_goals try ((with_reducible intro hI); try first | (cases hI; done) | (simp only [INTS, zL] at hI; try first | (exfalso; omega) | (have hT : True := hI; clear hT hI))))
    | ((first | apply jf | apply jg); (iterate 2 (try (simp (disch := omega) only [push_cast, simprocAttr, natNe, zI, zG, zJ, h1, h2] <;> rfl))))

  all_goals (show _ = _; rfl)
theorem law7_ok (r : Rec) (t : Nat) (ht : t < 256) : OKv cx 7 [.agg (eRec r), .v (.int .u8 (t : Int))] (ab true) := by
  have csm := small_ok r
  have c20 := sanity_ok
  cases hsm : smallB r with
  | false =>
    rw [hsm] at csm
    refine OKat.of_body (rs := [4]) Try.func7 rfl (by decide +kernel) rfl (by simp [Try.ntmps7]) ?_
    simp only [Try.ntmps7]
    repeat' first
      | apply jA | apply jB | apply jC | apply jD | apply jE | apply jF | apply jG | apply jH | apply jI | apply jJ
      | refine W.draw cx_mixed (by decide +kernel) ?_
      | ((first | (apply jK cx_ok; decide) | (apply jL cx_ok; decide; decide) | apply jM cx_ok | (apply jN; rfl; decide) | (apply jO; rfl; decide; decide) | apply jR); (simp (disch := omega) only [push_cast, simprocAttr] <;> rfl); all_goals try ((with_reducible intro hI); try first | (cases hI; done) | (simp only [INTS, zL] at hI; try first | (exfalso; omega) | (have hT : True := hI; clear hT hI))))
      | ((first | (apply jV cx_ok; decide) | (apply jW cx_ok; decide; decide)); (iterate 2 (simp (disch := omega) only [push_cast, simprocAttr] <;> rfl)); (with_reducible first | exact csm | exact c20); try first | rfl | (simp (disch := omega) only [push_cast, simprocAttr] <;> rfl))
      | ((first | apply jf | apply jg); (iterate 2 (try (simp (disch := omega) only [push_cast, simprocAttr] <;> rfl))))

    all_goals (show _ = _; rfl)
  | true =>
    rw [hsm] at csm
    obtain ⟨q1, q2, q3⟩ : r.s.stops.length ≤ 12 ∧ r.strikes.length ≤ 20 ∧ r.sights.length ≤ 20 := by
      unfold smallB at hsm
      simp only [Bool.and_eq_true, decide_eq_true_eq] at hsm
      omega
    by_cases hn : r.strikes.length = 0
    · have hnT : ((r.strikes.length : Int) = 0) = True := eq_true (by omega)
      refine OKat.of_body (rs := [4]) Try.func7 rfl (by decide +kernel) rfl (by simp [Try.ntmps7]) ?_
      simp only [Try.ntmps7]
      repeat' first
        | apply jA | apply jB | apply jC | apply jD | apply jE | apply jF | apply jG | apply jH | apply jI | apply jJ
        | refine W.draw cx_mixed (by decide +kernel) ?_
        | ((first | (apply jK cx_ok; decide) | (apply jL cx_ok; decide; decide) | apply jM cx_ok | (apply jN; rfl; decide) | (apply jO; rfl; decide; decide) | apply jR); (simp (disch := omega) only [push_cast, simprocAttr, hnT] <;> rfl); all_goals try ((with_reducible intro hI); try first | (cases hI; done) | (simp only [INTS, zL] at hI; try first | (exfalso; omega) | (have hT : True := hI; clear hT hI))))
        | ((first | (apply jV cx_ok; decide) | (apply jW cx_ok; decide; decide)); (iterate 2 (simp (disch := omega) only [push_cast, simprocAttr, hnT] <;> rfl)); (with_reducible first | exact csm | exact c20); try first | rfl | (simp (disch := omega) only [push_cast, simprocAttr, hnT] <;> rfl))
        | ((first | apply jf | apply jg); (iterate 2 (try (simp (disch := omega) only [push_cast, simprocAttr, hnT] <;> rfl))))

      all_goals (show _ = _; rfl)
    · have hnF : ((r.strikes.length : Int) = 0) = False := eq_false (by omega)
      have hkl : t % r.strikes.length < r.strikes.length := Nat.mod_lt _ (by omega)
      obtain ⟨k, hk⟩ : ∃ z, t % r.strikes.length = z := ⟨_, rfl⟩
      have hkE : (t : Int) % (r.strikes.length : Int) = (k : Int) := by rw [← hk, Int.natCast_emod]
      rw [hk] at hkl
      have hkI : (k : Int) < (r.strikes.length : Int) := by omega
      obtain ⟨a, ha⟩ : ∃ x, r.strikes[k]? = some x := ⟨_, List.getElem?_eq_getElem hkl⟩
      have gx : (r.strikes.map eStrike)[k]? = some (eStrike a) := by rw [List.getElem?_map, ha]; rfl
      have gd : (r.strikes.map eStrike).getD k [] = eStrike a := by rw [List.getD_eq_getElem?_getD, gx]; rfl
      have c34 := Spans_ok r
      by_cases hc : checkE r = 0
      · have c38 : OKv cx 38 [.agg (eRec r), .lst [[ai a.id]]] (.tup [.agg (eRec (withoutR r [a.id])), ai 0]) := Without_good r [a.id] hc (by simp)
        have hv := checkE_V hc
        have hns := hv.nstrikes
        have c34x := Spans_ok (withoutR r [a.id])
        cases hq : consP r [] with
        | true =>
          obtain ⟨e1, e2⟩ := less_spans hc hq ha
          obtain ⟨g1, g2⟩ := gone_get hv ha
          have hE1 : spansQ r = (spansP r, 0) := by unfold spansQ; rw [if_pos hc, hq, if_pos rfl]
          have hE2 : spansQ (withoutR r [a.id]) = (spansP (withoutR r [a.id]), 0) := by unfold spansQ; rw [if_pos (without_zero hc _), e1, if_pos rfl]
          have hA : (spansP r).length = r.strikes.length := by unfold spansP; simp
          have hB : (spansP (withoutR r [a.id])).length = r.strikes.length - 1 := by unfold spansP; simp [g1]
          rw [hE1] at c34
          rw [hE2] at c34x
          obtain ⟨AS, hAS⟩ : ∃ z, spansP r = z := ⟨_, rfl⟩
          obtain ⟨BS, hBS⟩ : ∃ z, spansP (withoutR r [a.id]) = z := ⟨_, rfl⟩
          obtain ⟨X, hX⟩ : ∃ z, withoutR r [a.id] = z := ⟨_, rfl⟩
          rw [hBS] at c34x hB e2
          rw [hX] at c34x c38 g1 g2
          rw [hAS] at c34 hA e2
          dsimp only at c34 c34x
          clear e1 hE1 hE2
          have hlT : ((BS.length : Int) = (AS.length : Int) - 1) = True := eq_true (by omega)
          refine OKat.of_body (rs := [4]) Try.func7 rfl (by decide +kernel) rfl (by simp [Try.ntmps7]) ?_
          simp only [Try.ntmps7]
          repeat' first
            | ((apply D.buildL cx_ok; decide; decide); (iterate 3 (simp (maxSteps := 1000000) (disch := (first | omega | (simp only [vC, List.length_range]; omega))) only [push_cast, simprocAttr, takeM, dropM, zK, zA, zB, zN, zQ, zR, zO, zP, zT, zS, zU, leT, zH, natNe, zI, zG, zJ, hnF, hkE, hkI, gx, gd, hlT, zM, Bool.true_and, beq_self_eq_true, pur, ite_true] <;> rfl)); exact Nat.zero_le _)
            | apply jA | apply jB | apply jC | apply jD | apply jE | apply jF | apply jG | apply jH | apply jI | apply jJ
            | refine AW.draw (id := 5) cx_mixed [13, 14] [7, 11] [13] 15 (by decide +kernel) ?_
            | refine W.draw cx_mixed (by decide +kernel) ?_
            | ((first | (apply jK cx_ok; decide) | (apply jL cx_ok; decide; decide) | apply jM cx_ok | (apply jN; rfl; decide) | (apply jO; rfl; decide; decide) | apply jR); (simp (maxSteps := 1000000) (disch := (first | omega | (simp only [vC, List.length_range]; omega))) only [push_cast, simprocAttr, takeM, dropM, zK, zA, zB, zN, zQ, zR, zO, zP, zT, zS, zU, leT, zH, natNe, zI, zG, zJ, hnF, hkE, hkI, gx, gd, hlT, zM, Bool.true_and, beq_self_eq_true] <;> rfl); all_goals try ((with_reducible intro hI); try first | (cases hI; done) | (simp only [INTS, zL] at hI; try first | (exfalso; omega) | (have hT : True := hI; clear hT hI))))
            | ((first | (apply ja cx_ok; decide) | (apply jb cx_ok; decide; decide) | (apply jc cx_ok; decide; decide)); (simp (maxSteps := 1000000) (disch := (first | omega | (simp only [vC, List.length_range]; omega))) only [push_cast, simprocAttr, takeM, dropM, zK, zA, zB, zN, zQ, zR, zO, zP, zT, zS, zU, leT, zH, natNe, zI, zG, zJ, hnF, hkE, hkI, gx, gd, hlT, zM, Bool.true_and, beq_self_eq_true] <;> rfl); try first | exact .inl rfl | exact .inr (by simp))
            | ((apply jZ cx_ok; decide; decide); (simp (maxSteps := 1000000) (disch := (first | omega | (simp only [vC, List.length_range]; omega))) only [push_cast, simprocAttr, takeM, dropM, zK, zA, zB, zN, zQ, zR, zO, zP, zT, zS, zU, leT, zH, natNe, zI, zG, zJ, hnF, hkE, hkI, gx, gd, hlT, zM, Bool.true_and, beq_self_eq_true] <;> rfl); (simp (maxSteps := 1000000) (disch := (first | omega | (simp only [vC, List.length_range]; omega))) only [push_cast, simprocAttr, takeM, dropM, zK, zA, zB, zN, zQ, zR, zO, zP, zT, zS, zU, leT, zH, natNe, zI, zG, zJ, hnF, hkE, hkI, gx, gd, hlT, zM, Bool.true_and, beq_self_eq_true, updH_at]); (simp (maxSteps := 1000000) (disch := (first | omega | (simp only [vC, List.length_range]; omega))) only [push_cast, simprocAttr, takeM, dropM, zK, zA, zB, zN, zQ, zR, zO, zP, zT, zS, zU, leT, zH, natNe, zI, zG, zJ, hnF, hkE, hkI, gx, gd, hlT, zM, Bool.true_and, beq_self_eq_true] <;> omega))
            | ((apply jY cx_ok; decide; decide); (simp (maxSteps := 1000000) (disch := (first | omega | (simp only [vC, List.length_range]; omega))) only [push_cast, simprocAttr, takeM, dropM, zK, zA, zB, zN, zQ, zR, zO, zP, zT, zS, zU, leT, zH, natNe, zI, zG, zJ, hnF, hkE, hkI, gx, gd, hlT, zM, Bool.true_and, beq_self_eq_true] <;> rfl); first | exact .inl rfl | exact .inr (by simp))
            | (apply jT cx_ok; decide; rfl; rfl; rfl; decide; (iterate 3 (simp (maxSteps := 1000000) (disch := (first | omega | (simp only [vC, List.length_range]; omega))) only [push_cast, simprocAttr, takeM, dropM, zK, zA, zB, zN, zQ, zR, zO, zP, zT, zS, zU, leT, zH, natNe, zI, zG, zJ, hnF, hkE, hkI, gx, gd, hlT, zM, Bool.true_and, beq_self_eq_true] <;> rfl)); (first | (focus (simp; done)) | (intro c hc; obtain ⟨x, _, rfl⟩ := List.mem_map.1 hc; rfl)); ((first | rfl | simp (maxSteps := 1000000) (disch := omega) only [push_cast])); ((try dsimp only); (try simp only [vC, List.length_range]); omega); ((try dsimp only); (try simp only [vC, List.length_range]); omega))
            | ((first | (apply jV cx_ok; decide) | (apply jW cx_ok; decide; decide) | (apply jX cx_ok; decide; decide)); (iterate 2 (simp (maxSteps := 1000000) (disch := (first | omega | (simp only [vC, List.length_range]; omega))) only [push_cast, simprocAttr, takeM, dropM, zK, zA, zB, zN, zQ, zR, zO, zP, zT, zS, zU, leT, zH, natNe, zI, zG, zJ, hnF, hkE, hkI, gx, gd, hlT, zM, Bool.true_and, beq_self_eq_true] <;> rfl)); (with_reducible first | exact csm | exact c20 | exact c34 | exact c34x | exact c38); try first | rfl | (simp (maxSteps := 1000000) (disch := (first | omega | (simp only [vC, List.length_range]; omega))) only [push_cast, simprocAttr, takeM, dropM, zK, zA, zB, zN, zQ, zR, zO, zP, zT, zS, zU, leT, zH, natNe, zI, zG, zJ, hnF, hkE, hkI, gx, gd, hlT, zM, Bool.true_and, beq_self_eq_true] <;> rfl))

          refine AW.loop (fun n s => ∃ (i : Nat), n = BS.length - i ∧ (i ≤ BS.length) ∧ 16 ≤ s.nx ∧ s.tm 2 = .ptr 0 0 0 1 ∧ s.tm 5 = ai k ∧ s.tm 6 = lSpan AS ∧ s.tm 8 = .ptr 13 0 0 1 ∧ s.tm 10 = lSpan BS ∧ s.tm 12 = ai i ∧ Pg.rowAt s.H 0 = some { k := 14, es := [eRec r], ty := 30 } ∧ Pg.rowAt s.H 13 = some { k := 14, es := [eRec X], ty := 30 }) (BS.length) ⟨0, rfl, (Nat.zero_le _), ?_, ?_, ?_, ?_, ?_, ?_, ?_, ?_, ?_⟩ ?_
          iterate 9 (first | (simp (disch := omega) only [push_cast, simprocAttr, natNe, zI, zG, zJ, zM, Bool.true_and, zO, beq_self_eq_true, zP, hnF, hkE, hkI, gx, gd, hlT] <;> first | rfl | omega) | omega)
          rintro n0 s0 ⟨i0, hn0, hp00, hnl0, hS0⟩
          by_cases hi : i0 < BS.length
          rotate_left
          · have hiI : ¬ (i0 : Int) < (BS.length : Int) := by omega
            repeat' first
              | apply jA | apply jB | apply jC | apply jD | apply jE | apply jF | apply jG | apply jH | apply jI | apply jJ
              | refine W.draw cx_mixed (by decide +kernel) ?_
              | ((first | (apply jK cx_ok; decide) | (apply jL cx_ok; decide; decide) | apply jM cx_ok | (apply jN; rfl; decide) | (apply jO; rfl; decide; decide) | apply jR); (simp (disch := omega) only [push_cast, simprocAttr, hS0, hiI, natNe, zI, zG, zJ, zM, Bool.true_and, zO, beq_self_eq_true, zP] <;> rfl); all_goals try ((with_reducible intro hI); try first | (cases hI; done) | (simp only [INTS, zL] at hI; try first | (exfalso; omega) | (have hT : True := hI; clear hT hI))))
              | ((first | (apply jV cx_ok; decide) | (apply jW cx_ok; decide; decide)); (iterate 2 (simp (disch := omega) only [push_cast, simprocAttr, hS0, hiI, natNe, zI, zG, zJ, zM, Bool.true_and, zO, beq_self_eq_true, zP] <;> rfl)); (with_reducible first | exact c20); try first | rfl | (simp (disch := omega) only [push_cast, simprocAttr, hS0, hiI, natNe, zI, zG, zJ, zM, Bool.true_and, zO, beq_self_eq_true, zP] <;> rfl))
              | ((first | apply jf | apply jg); (iterate 2 (try (simp (disch := omega) only [push_cast, simprocAttr, hS0, hiI, natNe, zI, zG, zJ, zM, Bool.true_and, zO, beq_self_eq_true, zP] <;> rfl))))

            all_goals (show _ = _; rfl)
          have hiI : (i0 : Int) < (BS.length : Int) := by omega
          obtain ⟨A1, B1, y1, y2, y3, y4⟩ := e2 i0 (by omega)
          have cw := Within_true A1 B1 y3 y4
          have hol : oldI k i0 < r.strikes.length := by unfold oldI; split <;> omega
          obtain ⟨S1, hS1⟩ : ∃ x, r.strikes[oldI k i0]? = some x := ⟨_, List.getElem?_eq_getElem hol⟩
          have hS2 := (g2 i0).trans hS1
          have hxl : (i0 : Int) < (X.strikes.length : Int) := by omega
          have u1 : (X.strikes.map eStrike)[i0]? = some (eStrike S1) := by rw [List.getElem?_map, hS2]; rfl
          have u2 : (X.strikes.map eStrike).getD i0 [] = eStrike S1 := by rw [List.getD_eq_getElem?_getD, u1]; rfl
          have v1 : (BS.map eSpan)[i0]? = some (eSpan B1) := by rw [List.getElem?_map, y2]; rfl
          have v2 : (BS.map eSpan).getD i0 [] = eSpan B1 := by rw [List.getD_eq_getElem?_getD, v1]; rfl
          by_cases hki : k ≤ i0
          · have hkiI : (k : Int) ≤ (i0 : Int) := by omega
            have ho : oldI k i0 = i0 + 1 := by unfold oldI; rw [if_pos hki]
            rw [ho] at y1 hS1 hol
            have w1 : (r.strikes.map eStrike)[i0 + 1]? = some (eStrike S1) := by rw [List.getElem?_map, hS1]; rfl
            have w2 : (r.strikes.map eStrike).getD (i0 + 1) [] = eStrike S1 := by rw [List.getD_eq_getElem?_getD, w1]; rfl
            have x1 : (AS.map eSpan)[i0 + 1]? = some (eSpan A1) := by rw [List.getElem?_map, y1]; rfl
            have x2 : (AS.map eSpan).getD (i0 + 1) [] = eSpan A1 := by rw [List.getD_eq_getElem?_getD, x1]; rfl
            have hoI : (i0 : Int) + 1 < (r.strikes.length : Int) := by omega
            have hoA : (i0 : Int) + 1 < (AS.length : Int) := by omega
            have hoN : ((i0 : Int) + 1).toNat = i0 + 1 := by omega
            have hoP : (0 : Int) ≤ (i0 : Int) + 1 := by omega
            repeat' first
              | ((first | (apply W.neN cx_ok; decide) | (apply D.neN cx_ok; decide; decide)); rfl; rfl; (first | exact E53 | exact E60 | exact E68); (iterate 2 (simp (disch := omega) only [push_cast, simprocAttr, hS0, hiI, hkiI, hoI, hoA, hoN, hoP, hxl, u1, u2, v1, v2, w1, w2, x1, x2, natNe, zI, zG, zJ, zM, Bool.true_and, zO, beq_self_eq_true, zP, Bool.not_true] <;> rfl)); (simp (disch := omega) only [push_cast, simprocAttr, hS0, hiI, hkiI, hoI, hoA, hoN, hoP, hxl, u1, u2, v1, v2, w1, w2, x1, x2, natNe, zI, zG, zJ, zM, Bool.true_and, zO, beq_self_eq_true, zP, Bool.not_true, cellsEqN, cellEqN] <;> rfl))
              | apply jA | apply jB | apply jC | apply jD | apply jE | apply jF | apply jG | apply jH | apply jI | apply jJ
              | refine W.draw cx_mixed (by decide +kernel) ?_
              | ((first | (apply jK cx_ok; decide) | (apply jL cx_ok; decide; decide) | apply jM cx_ok | (apply jN; rfl; decide) | (apply jO; rfl; decide; decide) | apply jR); (simp (disch := omega) only [push_cast, simprocAttr, hS0, hiI, hkiI, hoI, hoA, hoN, hoP, hxl, u1, u2, v1, v2, w1, w2, x1, x2, natNe, zI, zG, zJ, zM, Bool.true_and, zO, beq_self_eq_true, zP, Bool.not_true] <;> rfl); all_goals try ((with_reducible intro hI); try first | (cases hI; done) | (simp only [INTS, zL] at hI; try first | (exfalso; omega) | (have hT : True := hI; clear hT hI))))
              | ((first | (apply jV cx_ok; decide) | (apply jW cx_ok; decide; decide)); (iterate 2 (simp (disch := omega) only [push_cast, simprocAttr, hS0, hiI, hkiI, hoI, hoA, hoN, hoP, hxl, u1, u2, v1, v2, w1, w2, x1, x2, natNe, zI, zG, zJ, zM, Bool.true_and, zO, beq_self_eq_true, zP, Bool.not_true] <;> rfl)); (with_reducible first | exact cw); try first | rfl | (simp (disch := omega) only [push_cast, simprocAttr, hS0, hiI, hkiI, hoI, hoA, hoN, hoP, hxl, u1, u2, v1, v2, w1, w2, x1, x2, natNe, zI, zG, zJ, zM, Bool.true_and, zO, beq_self_eq_true, zP, Bool.not_true] <;> rfl))
              | ((first | apply jf | apply jg); (iterate 2 (try (simp (disch := omega) only [push_cast, simprocAttr, hS0, hiI, hkiI, hoI, hoA, hoN, hoP, hxl, u1, u2, v1, v2, w1, w2, x1, x2, natNe, zI, zG, zJ, zM, Bool.true_and, zO, beq_self_eq_true, zP, Bool.not_true] <;> rfl))))

            all_goals first
              | (exfalso; omega)
              | (refine ⟨BS.length - (i0 + 1), ?_, i0 + 1, rfl, (by omega), ?_, ?_, ?_, ?_, ?_, ?_, ?_, ?_, ?_⟩; (omega); all_goals first | (simp (disch := omega) only [push_cast, simprocAttr, hS0, natNe, zI, zG, zJ, zM, Bool.true_and, zO, beq_self_eq_true, zP, hiI, hkiI] <;> first | rfl | omega) | omega)
          · have hkiI : ¬ (k : Int) ≤ (i0 : Int) := by omega
            have ho : oldI k i0 = i0 := by unfold oldI; rw [if_neg hki]
            rw [ho] at y1 hS1 hol
            have w1 : (r.strikes.map eStrike)[i0]? = some (eStrike S1) := by rw [List.getElem?_map, hS1]; rfl
            have w2 : (r.strikes.map eStrike).getD i0 [] = eStrike S1 := by rw [List.getD_eq_getElem?_getD, w1]; rfl
            have x1 : (AS.map eSpan)[i0]? = some (eSpan A1) := by rw [List.getElem?_map, y1]; rfl
            have x2 : (AS.map eSpan).getD i0 [] = eSpan A1 := by rw [List.getD_eq_getElem?_getD, x1]; rfl
            have hoI : (i0 : Int) < (r.strikes.length : Int) := by omega
            have hoA : (i0 : Int) < (AS.length : Int) := by omega
            repeat' first
              | ((first | (apply W.neN cx_ok; decide) | (apply D.neN cx_ok; decide; decide)); rfl; rfl; (first | exact E53 | exact E60 | exact E68); (iterate 2 (simp (disch := omega) only [push_cast, simprocAttr, hS0, hiI, hkiI, hoI, hoA, hxl, u1, u2, v1, v2, w1, w2, x1, x2, natNe, zI, zG, zJ, zM, Bool.true_and, zO, beq_self_eq_true, zP, Bool.not_true] <;> rfl)); (simp (disch := omega) only [push_cast, simprocAttr, hS0, hiI, hkiI, hoI, hoA, hxl, u1, u2, v1, v2, w1, w2, x1, x2, natNe, zI, zG, zJ, zM, Bool.true_and, zO, beq_self_eq_true, zP, Bool.not_true, cellsEqN, cellEqN] <;> rfl))
              | apply jA | apply jB | apply jC | apply jD | apply jE | apply jF | apply jG | apply jH | apply jI | apply jJ
              | refine W.draw cx_mixed (by decide +kernel) ?_
              | ((first | (apply jK cx_ok; decide) | (apply jL cx_ok; decide; decide) | apply jM cx_ok | (apply jN; rfl; decide) | (apply jO; rfl; decide; decide) | apply jR); (simp (disch := omega) only [push_cast, simprocAttr, hS0, hiI, hkiI, hoI, hoA, hxl, u1, u2, v1, v2, w1, w2, x1, x2, natNe, zI, zG, zJ, zM, Bool.true_and, zO, beq_self_eq_true, zP, Bool.not_true] <;> rfl); all_goals try ((with_reducible intro hI); try first | (cases hI; done) | (simp only [INTS, zL] at hI; try first | (exfalso; omega) | (have hT : True := hI; clear hT hI))))
              | ((first | (apply jV cx_ok; decide) | (apply jW cx_ok; decide; decide)); (iterate 2 (simp (disch := omega) only [push_cast, simprocAttr, hS0, hiI, hkiI, hoI, hoA, hxl, u1, u2, v1, v2, w1, w2, x1, x2, natNe, zI, zG, zJ, zM, Bool.true_and, zO, beq_self_eq_true, zP, Bool.not_true] <;> rfl)); (with_reducible first | exact cw); try first | rfl | (simp (disch := omega) only [push_cast, simprocAttr, hS0, hiI, hkiI, hoI, hoA, hxl, u1, u2, v1, v2, w1, w2, x1, x2, natNe, zI, zG, zJ, zM, Bool.true_and, zO, beq_self_eq_true, zP, Bool.not_true] <;> rfl))
              | ((first | apply jf | apply jg); (iterate 2 (try (simp (disch := omega) only [push_cast, simprocAttr, hS0, hiI, hkiI, hoI, hoA, hxl, u1, u2, v1, v2, w1, w2, x1, x2, natNe, zI, zG, zJ, zM, Bool.true_and, zO, beq_self_eq_true, zP, Bool.not_true] <;> rfl))))

            all_goals first
              | (exfalso; omega)
              | (refine ⟨BS.length - (i0 + 1), ?_, i0 + 1, rfl, (by omega), ?_, ?_, ?_, ?_, ?_, ?_, ?_, ?_, ?_⟩; (omega); all_goals first | (simp (disch := omega) only [push_cast, simprocAttr, hS0, natNe, zI, zG, zJ, zM, Bool.true_and, zO, beq_self_eq_true, zP, hiI, hkiI] <;> first | rfl | omega) | omega)
        | false =>
          have hE1 : spansQ r = ([], 9) := by unfold spansQ; rw [if_pos hc, hq, if_neg (by decide)]
          rw [hE1] at c34
          have c34 : OKv cx 34 [.agg (eRec r)] (.tup [.lst [], ai 9]) := c34
          obtain ⟨⟨BS, E2⟩, hE2⟩ : ∃ z, spansQ (withoutR r [a.id]) = z := ⟨_, rfl⟩
          rw [hE2] at c34x
          obtain ⟨X, hX⟩ : ∃ z, withoutR r [a.id] = z := ⟨_, rfl⟩
          rw [hX] at c34x c38
          dsimp only at c34x
          refine OKat.of_body (rs := [4]) Try.func7 rfl (by decide +kernel) rfl (by simp [Try.ntmps7]) ?_
          simp only [Try.ntmps7]
          repeat' first
            | ((apply D.buildL cx_ok; decide; decide); (iterate 3 (simp (maxSteps := 1000000) (disch := omega) only [push_cast, simprocAttr, hnF, hkE, hkI, gx, gd, natNe, List.mem_cons, List.not_mem_nil, TyD.isAgg, Nat.add_assoc, Bool.false_eq_true, Bool.true_and, Bool.and_true, beq_self_eq_true, Bool.and_self, pur, pureA, pureL, ite_true, Bool.and_self] <;> rfl)); exact Nat.zero_le _)
            | apply jA | apply jB | apply jC | apply jD | apply jE | apply jF | apply jG | apply jH | apply jI | apply jJ
            | refine AW.draw (id := 5) cx_mixed [13, 14] [7, 11] [13] 15 (by decide +kernel) ?_
            | refine W.draw cx_mixed (by decide +kernel) ?_
            | ((first | (apply jK cx_ok; decide) | (apply jL cx_ok; decide; decide) | apply jM cx_ok | (apply jN; rfl; decide) | (apply jO; rfl; decide; decide) | apply jR); (simp (maxSteps := 1000000) (disch := omega) only [push_cast, simprocAttr, hnF, hkE, hkI, gx, gd, natNe, List.mem_cons, List.not_mem_nil, TyD.isAgg, Nat.add_assoc, Bool.false_eq_true, Bool.true_and, Bool.and_true, beq_self_eq_true, Bool.and_self] <;> rfl); all_goals try ((with_reducible intro hI); try first | (cases hI; done) | (simp only [INTS, zL] at hI; try first | (exfalso; omega) | (have hT : True := hI; clear hT hI))))
            | ((first | (apply ja cx_ok; decide) | (apply jb cx_ok; decide; decide) | (apply jc cx_ok; decide; decide)); (simp (maxSteps := 1000000) (disch := omega) only [push_cast, simprocAttr, hnF, hkE, hkI, gx, gd, natNe, List.mem_cons, List.not_mem_nil, TyD.isAgg, Nat.add_assoc, Bool.false_eq_true, Bool.true_and, Bool.and_true, beq_self_eq_true, Bool.and_self] <;> rfl); try first | exact .inl rfl | exact .inr (by simp))
            | ((apply jZ cx_ok; decide; decide); (simp (maxSteps := 1000000) (disch := omega) only [push_cast, simprocAttr, hnF, hkE, hkI, gx, gd, natNe, List.mem_cons, List.not_mem_nil, TyD.isAgg, Nat.add_assoc, Bool.false_eq_true, Bool.true_and, Bool.and_true, beq_self_eq_true, Bool.and_self] <;> rfl); (simp (maxSteps := 1000000) (disch := omega) only [push_cast, simprocAttr, hnF, hkE, hkI, gx, gd, natNe, List.mem_cons, List.not_mem_nil, TyD.isAgg, Nat.add_assoc, Bool.false_eq_true, Bool.true_and, Bool.and_true, beq_self_eq_true, Bool.and_self, updH_at, Nat.add_assoc]); (simp (maxSteps := 1000000) (disch := omega) only [push_cast, simprocAttr, hnF, hkE, hkI, gx, gd, natNe, List.mem_cons, List.not_mem_nil, TyD.isAgg, Nat.add_assoc, Bool.false_eq_true, Bool.true_and, Bool.and_true, beq_self_eq_true, Bool.and_self] <;> omega))
            | ((apply jY cx_ok; decide; decide); (simp (maxSteps := 1000000) (disch := omega) only [push_cast, simprocAttr, hnF, hkE, hkI, gx, gd, natNe, List.mem_cons, List.not_mem_nil, TyD.isAgg, Nat.add_assoc, Bool.false_eq_true, Bool.true_and, Bool.and_true, beq_self_eq_true, Bool.and_self] <;> rfl); first | exact .inl rfl | exact .inr (by simp))
            | ((first | (apply jV cx_ok; decide) | (apply jW cx_ok; decide; decide) | (apply jX cx_ok; decide; decide)); (iterate 2 (simp (maxSteps := 1000000) (disch := omega) only [push_cast, simprocAttr, hnF, hkE, hkI, gx, gd, natNe, List.mem_cons, List.not_mem_nil, TyD.isAgg, Nat.add_assoc, Bool.false_eq_true, Bool.true_and, Bool.and_true, beq_self_eq_true, Bool.and_self] <;> rfl)); (with_reducible first | exact csm | exact c20 | exact c34 | exact c34x | exact c38); try first | rfl | (simp (maxSteps := 1000000) (disch := omega) only [push_cast, simprocAttr, hnF, hkE, hkI, gx, gd, natNe, List.mem_cons, List.not_mem_nil, TyD.isAgg, Nat.add_assoc, Bool.false_eq_true, Bool.true_and, Bool.and_true, beq_self_eq_true, Bool.and_self] <;> rfl))
            | ((first | apply jf | apply jg); (iterate 2 (try (simp (maxSteps := 1000000) (disch := omega) only [push_cast, simprocAttr, hnF, hkE, hkI, gx, gd, natNe, List.mem_cons, List.not_mem_nil, TyD.isAgg, Nat.add_assoc, Bool.false_eq_true, Bool.true_and, Bool.and_true, beq_self_eq_true, Bool.and_self] <;> rfl))))

          all_goals (show _ = _; rfl)
      · have hcF : (checkE r = 0) = False := eq_false hc
        have c38 : OKv cx 38 [.agg (eRec r), .lst [[ai a.id]]] (.tup [.agg Z0, ai (checkE r)]) := Without_bad r [a.id] hc
        have c34x : OKv cx 34 [.agg Z0] (.tup [.lst [], ai (checkE R00)]) := by
          have := Spans_ok R00
          have e : spansQ R00 = ([], checkE R00) := by unfold spansQ; rw [if_neg (by decide)]
          rw [e] at this
          exact this
        have hE1 : spansQ r = ([], checkE r) := by unfold spansQ; rw [if_neg hc]
        rw [hE1] at c34
        have c34 : OKv cx 34 [.agg (eRec r)] (.tup [.lst [], ai (checkE r)]) := c34
        obtain ⟨E, hE⟩ : ∃ z, checkE r = z := ⟨_, rfl⟩
        obtain ⟨E0, hE0⟩ : ∃ z, checkE R00 = z := ⟨_, rfl⟩
        rw [hE] at c34 c38 hcF
        rw [hE0] at c34x
        refine OKat.of_body (rs := [4]) Try.func7 rfl (by decide +kernel) rfl (by simp [Try.ntmps7]) ?_
        simp only [Try.ntmps7]
        repeat' first
          | ((apply D.buildL cx_ok; decide; decide); (iterate 3 (simp (maxSteps := 1000000) (disch := omega) only [push_cast, simprocAttr, hnF, hkE, hkI, gx, gd, hcF, natNe, List.mem_cons, List.not_mem_nil, TyD.isAgg, Nat.add_assoc, Bool.false_eq_true, Bool.true_and, Bool.and_true, beq_self_eq_true, Bool.and_self, pur, pureA, pureL, ite_true, Bool.and_self] <;> rfl)); exact Nat.zero_le _)
          | apply jA | apply jB | apply jC | apply jD | apply jE | apply jF | apply jG | apply jH | apply jI | apply jJ
          | refine AW.draw (id := 5) cx_mixed [13, 14] [7, 11] [13] 15 (by decide +kernel) ?_
          | refine W.draw cx_mixed (by decide +kernel) ?_
          | ((first | (apply jK cx_ok; decide) | (apply jL cx_ok; decide; decide) | apply jM cx_ok | (apply jN; rfl; decide) | (apply jO; rfl; decide; decide) | apply jR); (simp (maxSteps := 1000000) (disch := omega) only [push_cast, simprocAttr, hnF, hkE, hkI, gx, gd, hcF, natNe, List.mem_cons, List.not_mem_nil, TyD.isAgg, Nat.add_assoc, Bool.false_eq_true, Bool.true_and, Bool.and_true, beq_self_eq_true, Bool.and_self] <;> rfl); all_goals try ((with_reducible intro hI); try first | (cases hI; done) | (simp only [INTS, zL] at hI; try first | (exfalso; omega) | (have hT : True := hI; clear hT hI))))
          | ((first | (apply ja cx_ok; decide) | (apply jb cx_ok; decide; decide) | (apply jc cx_ok; decide; decide)); (simp (maxSteps := 1000000) (disch := omega) only [push_cast, simprocAttr, hnF, hkE, hkI, gx, gd, hcF, natNe, List.mem_cons, List.not_mem_nil, TyD.isAgg, Nat.add_assoc, Bool.false_eq_true, Bool.true_and, Bool.and_true, beq_self_eq_true, Bool.and_self] <;> rfl); try first | exact .inl rfl | exact .inr (by simp))
          | ((apply jZ cx_ok; decide; decide); (simp (maxSteps := 1000000) (disch := omega) only [push_cast, simprocAttr, hnF, hkE, hkI, gx, gd, hcF, natNe, List.mem_cons, List.not_mem_nil, TyD.isAgg, Nat.add_assoc, Bool.false_eq_true, Bool.true_and, Bool.and_true, beq_self_eq_true, Bool.and_self] <;> rfl); (simp (maxSteps := 1000000) (disch := omega) only [push_cast, simprocAttr, hnF, hkE, hkI, gx, gd, hcF, natNe, List.mem_cons, List.not_mem_nil, TyD.isAgg, Nat.add_assoc, Bool.false_eq_true, Bool.true_and, Bool.and_true, beq_self_eq_true, Bool.and_self, updH_at, Nat.add_assoc]); (simp (maxSteps := 1000000) (disch := omega) only [push_cast, simprocAttr, hnF, hkE, hkI, gx, gd, hcF, natNe, List.mem_cons, List.not_mem_nil, TyD.isAgg, Nat.add_assoc, Bool.false_eq_true, Bool.true_and, Bool.and_true, beq_self_eq_true, Bool.and_self] <;> omega))
          | ((apply jY cx_ok; decide; decide); (simp (maxSteps := 1000000) (disch := omega) only [push_cast, simprocAttr, hnF, hkE, hkI, gx, gd, hcF, natNe, List.mem_cons, List.not_mem_nil, TyD.isAgg, Nat.add_assoc, Bool.false_eq_true, Bool.true_and, Bool.and_true, beq_self_eq_true, Bool.and_self] <;> rfl); first | exact .inl rfl | exact .inr (by simp))
          | ((first | (apply jV cx_ok; decide) | (apply jW cx_ok; decide; decide) | (apply jX cx_ok; decide; decide)); (iterate 2 (simp (maxSteps := 1000000) (disch := omega) only [push_cast, simprocAttr, hnF, hkE, hkI, gx, gd, hcF, natNe, List.mem_cons, List.not_mem_nil, TyD.isAgg, Nat.add_assoc, Bool.false_eq_true, Bool.true_and, Bool.and_true, beq_self_eq_true, Bool.and_self] <;> rfl)); (with_reducible first | exact csm | exact c20 | exact c34 | exact c34x | exact c38); try first | rfl | (simp (maxSteps := 1000000) (disch := omega) only [push_cast, simprocAttr, hnF, hkE, hkI, gx, gd, hcF, natNe, List.mem_cons, List.not_mem_nil, TyD.isAgg, Nat.add_assoc, Bool.false_eq_true, Bool.true_and, Bool.and_true, beq_self_eq_true, Bool.and_self] <;> rfl))
          | ((first | apply jf | apply jg); (iterate 2 (try (simp (maxSteps := 1000000) (disch := omega) only [push_cast, simprocAttr, hnF, hkE, hkI, gx, gd, hcF, natNe, List.mem_cons, List.not_mem_nil, TyD.isAgg, Nat.add_assoc, Bool.false_eq_true, Bool.true_and, Bool.and_true, beq_self_eq_true, Bool.and_self] <;> rfl))))

        all_goals (show _ = _; rfl)
end Go.Proofs.Ks
