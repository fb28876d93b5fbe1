/-
  Contracts of functions, proved by going through their code. No conditions.
-/
import Derived.Test.YtdlflcambboojaaMaa
import Derived.Test.YtdlflcambboojaaN18LwL1
set_option linter.unusedVariables false
set_option linter.unusedSimpArgs false
set_option maxHeartbeats 8000000
set_option maxRecDepth 10000
namespace Go.Proofs.Ks
open Go Go.Pg Go.Proofs
theorem law18_clash (r : Rec) (ts : List Int) (f t : Int) (wk cy st : List Int) (hc : checkE r = 0) (hq : consP r [] = false) (csm : OKv cx 19 [.agg (eRec r)] (ab true)) (l1 : ts.length ≤ 80) (l2 : wk.length ≤ 80) (l3 : cy.length ≤ 80) (l4 : st.length ≤ 20) (hs : OKv cx 81 [.agg (eRec r), .lst []] (.tup [.v (.pointer none), ai 9])) : OKv cx 18 [.agg (eRec r), lInt ts, ai f, ai t, lInt wk, lInt cy, lInt st] (ab true) := by
  have hL : ¬ (80 : Int) < (ts.length : Int) ∧ ¬ (80 : Int) < (wk.length : Int) ∧ ¬ (80 : Int) < (cy.length : Int) ∧ ¬ (20 : Int) < (st.length : Int) := by omega
  have c73b := CheckPath_ok r f t wk (by omega)
  have c28 := CheckClash_ok r cy (by omega)
  have c53 := Fits_ok r st (by omega)
  have c47 := CheckTimes_ok r ts (by omega)
  have hP : ∃ PL e, OKv cx 74 [.agg (eRec r), ai f, ai t] (.tup [lInt PL, ai e]) ∧ e ≠ 0 ∧ PL.length ≤ 50 := by
    by_cases hin : inN r f ∧ inN r t
    · exact ⟨[], 9, Path_clash r f t hc hin.1 hin.2 hq, by decide, by decide⟩
    · exact ⟨[], 1, Path_arg r f t hc hin, by decide, by decide⟩
  obtain ⟨PL, e, c74, he, hpl⟩ := hP
  have heF : (e = 0) = False := eq_false he
  have c73a := CheckPath_ok r f t PL (by omega)
  have c59 := Tight_err r 9 (by decide) hs
  obtain ⟨OUT, c27, ho, hol⟩ := clash_own hc hq
  have c28b := CheckClash_ok r OUT (by omega)
  rw [ho] at c28b
  have h8 := times_none hc hq ts
  have h8n : ∀ {A : Prop}, checkTimesE r ts = 0 → A := fun h => by rw [h8] at h; cases h
  rw [h8] at c47
  have hfn := fits_none hc hq st
  obtain ⟨⟨b0, i0⟩, hF⟩ : ∃ z, fitsP r st = z := ⟨_, rfl⟩
  rw [hF] at c53 hfn
  have hfn : b0 = false := hfn
  subst hfn
  obtain ⟨⟨a1, a2⟩, hA⟩ : ∃ z, checkPathP r f t PL = z := ⟨_, rfl⟩
  obtain ⟨⟨b1, b2⟩, hB⟩ : ∃ z, checkPathP r f t wk = z := ⟨_, rfl⟩
  obtain ⟨C, hC⟩ : ∃ z, checkClashE r cy = z := ⟨_, rfl⟩
  rw [hA] at c73a
  rw [hB] at c73b
  rw [hC] at c28
  dsimp only at c73a c73b c53
  by_cases hC0 : C = 0
  · have hCT : (C = 0) = True := eq_true hC0
    by_cases hi0 : i0 = 0
    · have hiT : (i0 = 0) = True := eq_true hi0
      refine OKat.of_body (rs := [14]) Try.func18 rfl (by decide +kernel) rfl (by simp [Try.ntmps18]) ?_
      simp only [Try.ntmps18]
      repeat' first
        | refine AW.seqS (y := tail18) ?_ | apply jA | apply jB | apply jC | apply jD | apply jE | apply jF | apply jG | apply jH | apply jI | apply jJ
        | refine W.draw cx_mixed (by decide +kernel) ?_
        | ((first | (apply jK cx_ok; decide) | (apply jL cx_ok; decide; decide) | (apply jN; rfl; decide) | (apply jO; rfl; decide; decide) | apply jR); (simp (disch := omega) only [push_cast, simprocAttr, hL, heF, hCT, hiT, natNe, zI, zG, zJ, zM, Bool.true_and, zO, beq_self_eq_true, zP, Bool.not_true, zW, zC] <;> rfl); all_goals try ((with_reducible intro hI); try first | (cases hI; done) | (simp only [INTS, zL] at hI; try first | (exfalso; omega) | (have hT : True := hI; clear hT hI))))
        | ((first | (apply jP; rfl; decide) | (apply jQ; rfl; decide; decide)); (simp (disch := omega) only [push_cast, simprocAttr, hL, heF, hCT, hiT, natNe, zI, zG, zJ, zM, Bool.true_and, zO, beq_self_eq_true, zP, Bool.not_true, zW, zC] <;> rfl))
        | ((first | (apply jV cx_ok; decide) | (apply jW cx_ok; decide; decide)); (iterate 2 (simp (disch := omega) only [push_cast, simprocAttr, hL, heF, hCT, hiT, natNe, zI, zG, zJ, zM, Bool.true_and, zO, beq_self_eq_true, zP, Bool.not_true, zW, zC] <;> rfl)); (with_reducible first | exact csm | exact c74 | exact c73a | exact c73b | exact c59 | exact c28 | exact c53 | exact c27 | exact c47 | exact c28b); try first | rfl | (simp (disch := omega) only [push_cast, simprocAttr, hL, heF, hCT, hiT, natNe, zI, zG, zJ, zM, Bool.true_and, zO, beq_self_eq_true, zP, Bool.not_true, zW, zC] <;> rfl))
        | ((first | apply jf | apply jg); (iterate 2 (try (simp (disch := omega) only [push_cast, simprocAttr, hL, heF, hCT, hiT, natNe, zI, zG, zJ, zM, Bool.true_and, zO, beq_self_eq_true, zP, Bool.not_true, zW, zC] <;> rfl))))

      all_goals (refine Pg.Stop.mk (tail18_ok r ts f t l1 (e := e) (a := a1) (b := b1) (g := b2) h8n ?_ ?_ ?_ ?_ ?_ ?_ ?_ ?_ ?_ ?_) <;> first | (simp (disch := omega) only [push_cast, simprocAttr, natNe, zI, zG, zJ, zM, Bool.true_and, zO, beq_self_eq_true, zP, Bool.not_true, zW, zC, hL, heF, hCT, hiT] <;> first | rfl | omega) | omega)
    · have hiF : (i0 = 0) = False := eq_false hi0
      refine OKat.of_body (rs := [14]) Try.func18 rfl (by decide +kernel) rfl (by simp [Try.ntmps18]) ?_
      simp only [Try.ntmps18]
      repeat' first
        | refine AW.seqS (y := tail18) ?_ | apply jA | apply jB | apply jC | apply jD | apply jE | apply jF | apply jG | apply jH | apply jI | apply jJ
        | refine W.draw cx_mixed (by decide +kernel) ?_
        | ((first | (apply jK cx_ok; decide) | (apply jL cx_ok; decide; decide) | (apply jN; rfl; decide) | (apply jO; rfl; decide; decide) | apply jR); (simp (disch := omega) only [push_cast, simprocAttr, hL, heF, hCT, hiF, natNe, zI, zG, zJ, zM, Bool.true_and, zO, beq_self_eq_true, zP, Bool.not_true, zW, zC] <;> rfl); all_goals try ((with_reducible intro hI); try first | (cases hI; done) | (simp only [INTS, zL] at hI; try first | (exfalso; omega) | (have hT : True := hI; clear hT hI))))
        | ((first | (apply jP; rfl; decide) | (apply jQ; rfl; decide; decide)); (simp (disch := omega) only [push_cast, simprocAttr, hL, heF, hCT, hiF, natNe, zI, zG, zJ, zM, Bool.true_and, zO, beq_self_eq_true, zP, Bool.not_true, zW, zC] <;> rfl))
        | ((first | (apply jV cx_ok; decide) | (apply jW cx_ok; decide; decide)); (iterate 2 (simp (disch := omega) only [push_cast, simprocAttr, hL, heF, hCT, hiF, natNe, zI, zG, zJ, zM, Bool.true_and, zO, beq_self_eq_true, zP, Bool.not_true, zW, zC] <;> rfl)); (with_reducible first | exact csm | exact c74 | exact c73a | exact c73b | exact c59 | exact c28 | exact c53 | exact c27 | exact c47 | exact c28b); try first | rfl | (simp (disch := omega) only [push_cast, simprocAttr, hL, heF, hCT, hiF, natNe, zI, zG, zJ, zM, Bool.true_and, zO, beq_self_eq_true, zP, Bool.not_true, zW, zC] <;> rfl))
        | ((first | apply jf | apply jg); (iterate 2 (try (simp (disch := omega) only [push_cast, simprocAttr, hL, heF, hCT, hiF, natNe, zI, zG, zJ, zM, Bool.true_and, zO, beq_self_eq_true, zP, Bool.not_true, zW, zC] <;> rfl))))

      all_goals (refine Pg.Stop.mk (tail18_ok r ts f t l1 (e := e) (a := a1) (b := b1) (g := b2) h8n ?_ ?_ ?_ ?_ ?_ ?_ ?_ ?_ ?_ ?_) <;> first | (simp (disch := omega) only [push_cast, simprocAttr, natNe, zI, zG, zJ, zM, Bool.true_and, zO, beq_self_eq_true, zP, Bool.not_true, zW, zC, hL, heF, hCT, hiF] <;> first | rfl | omega) | omega)
  · have hCF : (C = 0) = False := eq_false hC0
    refine OKat.of_body (rs := [14]) Try.func18 rfl (by decide +kernel) rfl (by simp [Try.ntmps18]) ?_
    simp only [Try.ntmps18]
    repeat' first
      | refine AW.seqS (y := tail18) ?_ | apply jA | apply jB | apply jC | apply jD | apply jE | apply jF | apply jG | apply jH | apply jI | apply jJ
      | refine W.draw cx_mixed (by decide +kernel) ?_
      | ((first | (apply jK cx_ok; decide) | (apply jL cx_ok; decide; decide) | (apply jN; rfl; decide) | (apply jO; rfl; decide; decide) | apply jR); (simp (disch := omega) only [push_cast, simprocAttr, hL, heF, hCF, natNe, zI, zG, zJ, zM, Bool.true_and, zO, beq_self_eq_true, zP, Bool.not_true, zW, zC] <;> rfl); all_goals try ((with_reducible intro hI); try first | (cases hI; done) | (simp only [INTS, zL] at hI; try first | (exfalso; omega) | (have hT : True := hI; clear hT hI))))
      | ((first | (apply jP; rfl; decide) | (apply jQ; rfl; decide; decide)); (simp (disch := omega) only [push_cast, simprocAttr, hL, heF, hCF, natNe, zI, zG, zJ, zM, Bool.true_and, zO, beq_self_eq_true, zP, Bool.not_true, zW, zC] <;> rfl))
      | ((first | (apply jV cx_ok; decide) | (apply jW cx_ok; decide; decide)); (iterate 2 (simp (disch := omega) only [push_cast, simprocAttr, hL, heF, hCF, natNe, zI, zG, zJ, zM, Bool.true_and, zO, beq_self_eq_true, zP, Bool.not_true, zW, zC] <;> rfl)); (with_reducible first | exact csm | exact c74 | exact c73a | exact c73b | exact c59 | exact c28 | exact c53 | exact c27 | exact c47 | exact c28b); try first | rfl | (simp (disch := omega) only [push_cast, simprocAttr, hL, heF, hCF, natNe, zI, zG, zJ, zM, Bool.true_and, zO, beq_self_eq_true, zP, Bool.not_true, zW, zC] <;> rfl))
      | ((first | apply jf | apply jg); (iterate 2 (try (simp (disch := omega) only [push_cast, simprocAttr, hL, heF, hCF, natNe, zI, zG, zJ, zM, Bool.true_and, zO, beq_self_eq_true, zP, Bool.not_true, zW, zC] <;> rfl))))

    all_goals (refine Pg.Stop.mk (tail18_ok r ts f t l1 (e := e) (a := a1) (b := b1) (g := b2) h8n ?_ ?_ ?_ ?_ ?_ ?_ ?_ ?_ ?_ ?_) <;> first | (simp (disch := omega) only [push_cast, simprocAttr, natNe, zI, zG, zJ, zM, Bool.true_and, zO, beq_self_eq_true, zP, Bool.not_true, zW, zC, hL, heF, hCF] <;> first | rfl | omega) | omega)
end Go.Proofs.Ks
