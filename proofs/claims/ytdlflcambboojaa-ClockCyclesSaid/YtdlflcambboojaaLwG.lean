/-
  Contracts of functions, proved by going through their code. No conditions.
-/
import Derived.Test.YtdlflcambboojaaKaa
import Derived.Test.YtdlflcambboojaaKbf
import Derived.Test.YtdlflcambboojaaKlW
set_option linter.unusedVariables false
set_option linter.unusedSimpArgs false
set_option maxHeartbeats 8000000
set_option maxRecDepth 10000
namespace Go.Proofs.Ks
open Go Go.Pg Go.Proofs
theorem law4_ok (r : Rec) (l : List Int) : OKv cx 4 [.agg (eRec r), lInt l] (ab true) := by
  have csm := small_ok r
  have c20 := sanity_ok
  have c21 := RCheck_ok r
  cases hsm : smallB r with
  | false =>
    rw [hsm] at csm
    refine OKat.of_body (rs := [4]) Try.func4 rfl (by decide +kernel) rfl (by simp [Try.ntmps4]) ?_
    simp only [Try.ntmps4]
    repeat' first
      | apply jA | apply jB | apply jC | apply jD | apply jE | apply jF | apply jG | apply jH | apply jI
      | ((first | (apply jK cx_ok; decide) | (apply jN; rfl; decide) | apply jR); (simp (disch := omega) only [push_cast, simprocAttr] <;> rfl); all_goals try ((with_reducible intro hI); try first | (cases hI; done) | (simp only [INTS, zL] at hI; try first | (exfalso; omega) | (have hT : True := hI; clear hT hI))))
      | ((apply jP; rfl; decide); (simp (disch := omega) only [push_cast, simprocAttr] <;> rfl))
      | ((apply jV cx_ok; decide); (iterate 2 (simp (disch := omega) only [push_cast, simprocAttr] <;> rfl)); (with_reducible first | exact csm | exact c20); try first | rfl | (simp (disch := omega) only [push_cast, simprocAttr] <;> rfl))
      | ((first | apply jf | apply jg); (iterate 2 (try (simp (disch := omega) only [push_cast, simprocAttr] <;> rfl))))

    all_goals (show _ = _; rfl)
  | true =>
    rw [hsm] at csm
    by_cases hl : 80 < l.length
    · have hlI : (80 : Int) < (l.length : Int) := by omega
      refine OKat.of_body (rs := [4]) Try.func4 rfl (by decide +kernel) rfl (by simp [Try.ntmps4]) ?_
      simp only [Try.ntmps4]
      repeat' first
        | apply jA | apply jB | apply jC | apply jD | apply jE | apply jF | apply jG | apply jH | apply jI
        | ((first | (apply jK cx_ok; decide) | (apply jN; rfl; decide) | apply jR); (simp (disch := omega) only [push_cast, simprocAttr, hlI] <;> rfl); all_goals try ((with_reducible intro hI); try first | (cases hI; done) | (simp only [INTS, zL] at hI; try first | (exfalso; omega) | (have hT : True := hI; clear hT hI))))
        | ((apply jP; rfl; decide); (simp (disch := omega) only [push_cast, simprocAttr, hlI] <;> rfl))
        | ((apply jV cx_ok; decide); (iterate 2 (simp (disch := omega) only [push_cast, simprocAttr, hlI] <;> rfl)); (with_reducible first | exact csm | exact c20); try first | rfl | (simp (disch := omega) only [push_cast, simprocAttr, hlI] <;> rfl))
        | ((first | apply jf | apply jg); (iterate 2 (try (simp (disch := omega) only [push_cast, simprocAttr, hlI] <;> rfl))))

      all_goals (show _ = _; rfl)
    · have hlI : ¬ (80 : Int) < (l.length : Int) := by omega
      have c28 := CheckClash_ok r l (by omega)
      unfold checkClashE at c28
      by_cases hc : checkE r = 0
      · have hv := checkE_V hc
        rw [if_pos hc] at c28
        rw [hc] at c21
        obtain ⟨h1, h2, h3, h4, h5⟩ := links_facts (more := []) hv (by decide) nomore
        have c29 := RCycle_ok r hv l (by omega)
        have c30 := Consistent_ok r hv
        have htp := tight_prog hv (more := []) (by decide) nomore
        cases hq : consP r [] with
        | true =>
          have c27 : OKv cx 27 [.agg (eRec r)] (.tup [lInt [], ab false, ai 0]) := Clash_none r hc hq
          have hT : (tightR r []).isSome = true := by
            rcases htp with ⟨o, e, _⟩ | ⟨_, e⟩
            · rw [e]; rfl
            · rw [hq] at e; cases e
          rw [hT] at c30
          clear htp
          by_cases hl6 : 60 < l.length
          · have hl6I : (60 : Int) < (l.length : Int) := by omega
            rw [if_pos hl6] at c28
            refine OKat.of_body (rs := [4]) Try.func4 rfl (by decide +kernel) rfl (by simp [Try.ntmps4]) ?_
            simp only [Try.ntmps4]
            repeat' first
              | apply jA | apply jB | apply jC | apply jD | apply jE | apply jF | apply jG | apply jH | apply jI
              | ((first | (apply jK cx_ok; decide) | (apply jN; rfl; decide) | apply jR); (simp (disch := omega) only [push_cast, simprocAttr, hlI, hl6I, natNe, zI, zG, zJ, zM, Bool.true_and, zO, beq_self_eq_true, zP, zW, zC] <;> rfl); all_goals try ((with_reducible intro hI); try first | (cases hI; done) | (simp only [INTS, zL] at hI; try first | (exfalso; omega) | (have hT : True := hI; clear hT hI))))
              | ((apply jP; rfl; decide); (simp (disch := omega) only [push_cast, simprocAttr, hlI, hl6I, natNe, zI, zG, zJ, zM, Bool.true_and, zO, beq_self_eq_true, zP, zW, zC] <;> rfl))
              | ((apply jV cx_ok; decide); (iterate 2 (simp (disch := omega) only [push_cast, simprocAttr, hlI, hl6I, natNe, zI, zG, zJ, zM, Bool.true_and, zO, beq_self_eq_true, zP, zW, zC] <;> rfl)); (with_reducible first | exact csm | exact c20 | exact c21 | exact c27 | exact c28 | exact c30); try first | rfl | (simp (disch := omega) only [push_cast, simprocAttr, hlI, hl6I, natNe, zI, zG, zJ, zM, Bool.true_and, zO, beq_self_eq_true, zP, zW, zC] <;> rfl))
              | ((first | apply jf | apply jg); (iterate 2 (try (simp (disch := omega) only [push_cast, simprocAttr, hlI, hl6I, natNe, zI, zG, zJ, zM, Bool.true_and, zO, beq_self_eq_true, zP, zW, zC] <;> rfl))))

            all_goals (show _ = _; rfl)
          · have hl6I : ¬ (60 : Int) < (l.length : Int) := by omega
            rw [if_neg hl6] at c28
            cases hcb : cycleB (linksR r []) l with
            | true =>
              rw [hcb] at c28 c29
              rw [if_pos rfl] at c28
              refine OKat.of_body (rs := [4]) Try.func4 rfl (by decide +kernel) rfl (by simp [Try.ntmps4]) ?_
              simp only [Try.ntmps4]
              repeat' first
                | apply jA | apply jB | apply jC | apply jD | apply jE | apply jF | apply jG | apply jH | apply jI
                | ((first | (apply jK cx_ok; decide) | (apply jN; rfl; decide) | apply jR); (simp (disch := omega) only [push_cast, simprocAttr, hlI, hl6I, natNe, zI, zG, zJ, zM, Bool.true_and, zO, beq_self_eq_true, zP, zW, zC] <;> rfl); all_goals try ((with_reducible intro hI); try first | (cases hI; done) | (simp only [INTS, zL] at hI; try first | (exfalso; omega) | (have hT : True := hI; clear hT hI))))
                | ((apply jP; rfl; decide); (simp (disch := omega) only [push_cast, simprocAttr, hlI, hl6I, natNe, zI, zG, zJ, zM, Bool.true_and, zO, beq_self_eq_true, zP, zW, zC] <;> rfl))
                | ((apply jV cx_ok; decide); (iterate 2 (simp (disch := omega) only [push_cast, simprocAttr, hlI, hl6I, natNe, zI, zG, zJ, zM, Bool.true_and, zO, beq_self_eq_true, zP, zW, zC] <;> rfl)); (with_reducible first | exact csm | exact c20 | exact c21 | exact c27 | exact c28 | exact c30 | exact c29); try first | rfl | (simp (disch := omega) only [push_cast, simprocAttr, hlI, hl6I, natNe, zI, zG, zJ, zM, Bool.true_and, zO, beq_self_eq_true, zP, zW, zC] <;> rfl))
                | ((first | apply jf | apply jg); (iterate 2 (try (simp (disch := omega) only [push_cast, simprocAttr, hlI, hl6I, natNe, zI, zG, zJ, zM, Bool.true_and, zO, beq_self_eq_true, zP, zW, zC] <;> rfl))))

              all_goals (show _ = _; rfl)
            | false =>
              rw [hcb] at c28 c29
              rw [if_neg (by decide)] at c28
              refine OKat.of_body (rs := [4]) Try.func4 rfl (by decide +kernel) rfl (by simp [Try.ntmps4]) ?_
              simp only [Try.ntmps4]
              repeat' first
                | apply jA | apply jB | apply jC | apply jD | apply jE | apply jF | apply jG | apply jH | apply jI
                | ((first | (apply jK cx_ok; decide) | (apply jN; rfl; decide) | apply jR); (simp (disch := omega) only [push_cast, simprocAttr, hlI, hl6I, natNe, zI, zG, zJ, zM, Bool.true_and, zO, beq_self_eq_true, zP, zW, zC] <;> rfl); all_goals try ((with_reducible intro hI); try first | (cases hI; done) | (simp only [INTS, zL] at hI; try first | (exfalso; omega) | (have hT : True := hI; clear hT hI))))
                | ((apply jP; rfl; decide); (simp (disch := omega) only [push_cast, simprocAttr, hlI, hl6I, natNe, zI, zG, zJ, zM, Bool.true_and, zO, beq_self_eq_true, zP, zW, zC] <;> rfl))
                | ((apply jV cx_ok; decide); (iterate 2 (simp (disch := omega) only [push_cast, simprocAttr, hlI, hl6I, natNe, zI, zG, zJ, zM, Bool.true_and, zO, beq_self_eq_true, zP, zW, zC] <;> rfl)); (with_reducible first | exact csm | exact c20 | exact c21 | exact c27 | exact c28 | exact c30 | exact c29); try first | rfl | (simp (disch := omega) only [push_cast, simprocAttr, hlI, hl6I, natNe, zI, zG, zJ, zM, Bool.true_and, zO, beq_self_eq_true, zP, zW, zC] <;> rfl))
                | ((first | apply jf | apply jg); (iterate 2 (try (simp (disch := omega) only [push_cast, simprocAttr, hlI, hl6I, natNe, zI, zG, zJ, zM, Bool.true_and, zO, beq_self_eq_true, zP, zW, zC] <;> rfl))))

              all_goals (show _ = _; rfl)
        | false =>
          obtain ⟨OUT, o1, o2, o3, o4, o5⟩ := clash_cycle h3 h5 h1 (by unfold consP at hq; have := of_decide_eq_false hq; omega)
          have c27 := Clash_some r hc hq o1
          have c29b := RCycle_ok r hv OUT (by omega)
          have c31 := RSimple_ok r hv OUT (by omega) o3 o4
          rw [o2] at c29b
          have hT : (tightR r []).isSome = false := by
            rcases htp with ⟨o, _, e, _⟩ | ⟨e, _⟩
            · rw [hq] at e; cases e
            · rw [e]; rfl
          rw [hT] at c30
          clear htp o1 o2 o3 o4
          by_cases hl6 : 60 < l.length
          · have hl6I : (60 : Int) < (l.length : Int) := by omega
            rw [if_pos hl6] at c28
            refine OKat.of_body (rs := [4]) Try.func4 rfl (by decide +kernel) rfl (by simp [Try.ntmps4]) ?_
            simp only [Try.ntmps4]
            repeat' first
              | apply jA | apply jB | apply jC | apply jD | apply jE | apply jF | apply jG | apply jH | apply jI
              | ((first | (apply jK cx_ok; decide) | (apply jN; rfl; decide) | apply jR); (simp (disch := omega) only [push_cast, simprocAttr, hlI, hl6I, natNe, zI, zG, zJ, zM, Bool.true_and, zO, beq_self_eq_true, zP, zW, zC] <;> rfl); all_goals try ((with_reducible intro hI); try first | (cases hI; done) | (simp only [INTS, zL] at hI; try first | (exfalso; omega) | (have hT : True := hI; clear hT hI))))
              | ((apply jP; rfl; decide); (simp (disch := omega) only [push_cast, simprocAttr, hlI, hl6I, natNe, zI, zG, zJ, zM, Bool.true_and, zO, beq_self_eq_true, zP, zW, zC] <;> rfl))
              | ((apply jV cx_ok; decide); (iterate 2 (simp (disch := omega) only [push_cast, simprocAttr, hlI, hl6I, natNe, zI, zG, zJ, zM, Bool.true_and, zO, beq_self_eq_true, zP, zW, zC] <;> rfl)); (with_reducible first | exact csm | exact c20 | exact c21 | exact c27 | exact c28 | exact c30 | exact c29b | exact c31); try first | rfl | (simp (disch := omega) only [push_cast, simprocAttr, hlI, hl6I, natNe, zI, zG, zJ, zM, Bool.true_and, zO, beq_self_eq_true, zP, zW, zC] <;> rfl))
              | ((first | apply jf | apply jg); (iterate 2 (try (simp (disch := omega) only [push_cast, simprocAttr, hlI, hl6I, natNe, zI, zG, zJ, zM, Bool.true_and, zO, beq_self_eq_true, zP, zW, zC] <;> rfl))))

            all_goals (show _ = _; rfl)
          · have hl6I : ¬ (60 : Int) < (l.length : Int) := by omega
            rw [if_neg hl6] at c28
            cases hcb : cycleB (linksR r []) l with
            | true =>
              rw [hcb] at c28 c29
              rw [if_pos rfl] at c28
              refine OKat.of_body (rs := [4]) Try.func4 rfl (by decide +kernel) rfl (by simp [Try.ntmps4]) ?_
              simp only [Try.ntmps4]
              repeat' first
                | apply jA | apply jB | apply jC | apply jD | apply jE | apply jF | apply jG | apply jH | apply jI
                | ((first | (apply jK cx_ok; decide) | (apply jN; rfl; decide) | apply jR); (simp (disch := omega) only [push_cast, simprocAttr, hlI, hl6I, natNe, zI, zG, zJ, zM, Bool.true_and, zO, beq_self_eq_true, zP, zW, zC] <;> rfl); all_goals try ((with_reducible intro hI); try first | (cases hI; done) | (simp only [INTS, zL] at hI; try first | (exfalso; omega) | (have hT : True := hI; clear hT hI))))
                | ((apply jP; rfl; decide); (simp (disch := omega) only [push_cast, simprocAttr, hlI, hl6I, natNe, zI, zG, zJ, zM, Bool.true_and, zO, beq_self_eq_true, zP, zW, zC] <;> rfl))
                | ((apply jV cx_ok; decide); (iterate 2 (simp (disch := omega) only [push_cast, simprocAttr, hlI, hl6I, natNe, zI, zG, zJ, zM, Bool.true_and, zO, beq_self_eq_true, zP, zW, zC] <;> rfl)); (with_reducible first | exact csm | exact c20 | exact c21 | exact c27 | exact c28 | exact c30 | exact c29b | exact c31 | exact c29); try first | rfl | (simp (disch := omega) only [push_cast, simprocAttr, hlI, hl6I, natNe, zI, zG, zJ, zM, Bool.true_and, zO, beq_self_eq_true, zP, zW, zC] <;> rfl))
                | ((first | apply jf | apply jg); (iterate 2 (try (simp (disch := omega) only [push_cast, simprocAttr, hlI, hl6I, natNe, zI, zG, zJ, zM, Bool.true_and, zO, beq_self_eq_true, zP, zW, zC] <;> rfl))))

              all_goals (show _ = _; rfl)
            | false =>
              rw [hcb] at c28 c29
              rw [if_neg (by decide)] at c28
              refine OKat.of_body (rs := [4]) Try.func4 rfl (by decide +kernel) rfl (by simp [Try.ntmps4]) ?_
              simp only [Try.ntmps4]
              repeat' first
                | apply jA | apply jB | apply jC | apply jD | apply jE | apply jF | apply jG | apply jH | apply jI
                | ((first | (apply jK cx_ok; decide) | (apply jN; rfl; decide) | apply jR); (simp (disch := omega) only [push_cast, simprocAttr, hlI, hl6I, natNe, zI, zG, zJ, zM, Bool.true_and, zO, beq_self_eq_true, zP, zW, zC] <;> rfl); all_goals try ((with_reducible intro hI); try first | (cases hI; done) | (simp only [INTS, zL] at hI; try first | (exfalso; omega) | (have hT : True := hI; clear hT hI))))
                | ((apply jP; rfl; decide); (simp (disch := omega) only [push_cast, simprocAttr, hlI, hl6I, natNe, zI, zG, zJ, zM, Bool.true_and, zO, beq_self_eq_true, zP, zW, zC] <;> rfl))
                | ((apply jV cx_ok; decide); (iterate 2 (simp (disch := omega) only [push_cast, simprocAttr, hlI, hl6I, natNe, zI, zG, zJ, zM, Bool.true_and, zO, beq_self_eq_true, zP, zW, zC] <;> rfl)); (with_reducible first | exact csm | exact c20 | exact c21 | exact c27 | exact c28 | exact c30 | exact c29b | exact c31 | exact c29); try first | rfl | (simp (disch := omega) only [push_cast, simprocAttr, hlI, hl6I, natNe, zI, zG, zJ, zM, Bool.true_and, zO, beq_self_eq_true, zP, zW, zC] <;> rfl))
                | ((first | apply jf | apply jg); (iterate 2 (try (simp (disch := omega) only [push_cast, simprocAttr, hlI, hl6I, natNe, zI, zG, zJ, zM, Bool.true_and, zO, beq_self_eq_true, zP, zW, zC] <;> rfl))))

              all_goals (show _ = _; rfl)
      · rw [if_neg hc] at c28
        have c27 : OKv cx 27 [.agg (eRec r)] (.tup [lInt [], ab false, ai (checkE r)]) := Clash_bad r hc
        have hcF : (checkE r = 0) = False := eq_false hc
        obtain ⟨E, hE⟩ : ∃ z, checkE r = z := ⟨_, rfl⟩
        rw [hE] at c21 c27 c28 hcF
        refine OKat.of_body (rs := [4]) Try.func4 rfl (by decide +kernel) rfl (by simp [Try.ntmps4]) ?_
        simp only [Try.ntmps4]
        repeat' first
          | apply jA | apply jB | apply jC | apply jD | apply jE | apply jF | apply jG | apply jH | apply jI
          | ((first | (apply jK cx_ok; decide) | (apply jN; rfl; decide) | apply jR); (simp (disch := omega) only [push_cast, simprocAttr, hlI, hcF, natNe, zI, zG, zJ, zM, Bool.true_and, zO, beq_self_eq_true, zP, zW, zC] <;> rfl); all_goals try ((with_reducible intro hI); try first | (cases hI; done) | (simp only [INTS, zL] at hI; try first | (exfalso; omega) | (have hT : True := hI; clear hT hI))))
          | ((apply jP; rfl; decide); (simp (disch := omega) only [push_cast, simprocAttr, hlI, hcF, natNe, zI, zG, zJ, zM, Bool.true_and, zO, beq_self_eq_true, zP, zW, zC] <;> rfl))
          | ((apply jV cx_ok; decide); (iterate 2 (simp (disch := omega) only [push_cast, simprocAttr, hlI, hcF, natNe, zI, zG, zJ, zM, Bool.true_and, zO, beq_self_eq_true, zP, zW, zC] <;> rfl)); (with_reducible first | exact csm | exact c20 | exact c21 | exact c27 | exact c28); try first | rfl | (simp (disch := omega) only [push_cast, simprocAttr, hlI, hcF, natNe, zI, zG, zJ, zM, Bool.true_and, zO, beq_self_eq_true, zP, zW, zC] <;> rfl))
          | ((first | apply jf | apply jg); (iterate 2 (try (simp (disch := omega) only [push_cast, simprocAttr, hlI, hcF, natNe, zI, zG, zJ, zM, Bool.true_and, zO, beq_self_eq_true, zP, zW, zC] <;> rfl))))

        all_goals (show _ = _; rfl)
end Go.Proofs.Ks
