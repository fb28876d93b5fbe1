/-
  Contracts of functions, proved by going through their code. No conditions.
-/
import Derived.Test.YtdlflcambboojaaMaa
import Derived.Test.YtdlflcambboojaaN18LwL2
import Derived.Test.YtdlflcambboojaaN18LwL3
set_option linter.unusedVariables false
set_option linter.unusedSimpArgs false
set_option maxHeartbeats 8000000
set_option maxRecDepth 10000
namespace Go.Proofs.Ks
open Go Go.Pg Go.Proofs
theorem law18_ok (r : Rec) (ts : List Int) (f t : Int) (wk cy st : List Int) : OKv cx 18 [.agg (eRec r), lInt ts, ai f, ai t, lInt wk, lInt cy, lInt st] (ab true) := by
  have csm := small_ok r
  have c20 := sanity_ok
  cases hsm : smallB r with
  | false =>
    rw [hsm] at csm
    refine OKat.of_body (rs := [14]) Try.func18 rfl (by decide +kernel) rfl (by simp [Try.ntmps18]) ?_
    simp only [Try.ntmps18]
    repeat' first
      | apply jA | apply jB | apply jC | apply jD | apply jE | apply jF | apply jG | apply jH | apply jI | apply jJ
      | refine W.draw cx_mixed (by decide +kernel) ?_
      | ((first | (apply jK cx_ok; decide) | (apply jL cx_ok; decide; decide) | (apply jN; rfl; decide) | (apply jO; rfl; decide; decide) | apply jR); (simp (disch := omega) only [push_cast, simprocAttr] <;> rfl); all_goals try ((with_reducible intro hI); try first | (cases hI; done) | (simp only [INTS, zL] at hI; try first | (exfalso; omega) | (have hT : True := hI; clear hT hI))))
      | ((first | (apply jP; rfl; decide) | (apply jQ; rfl; decide; decide)); (simp (disch := omega) only [push_cast, simprocAttr] <;> rfl))
      | ((first | (apply jV cx_ok; decide) | (apply jW cx_ok; decide; decide)); (iterate 2 (simp (disch := omega) only [push_cast, simprocAttr] <;> rfl)); (with_reducible first | exact csm | exact c20); try first | rfl | (simp (disch := omega) only [push_cast, simprocAttr] <;> rfl))
      | ((first | apply jf | apply jg); (iterate 2 (try (simp (disch := omega) only [push_cast, simprocAttr] <;> rfl))))

    all_goals (show _ = _; rfl)
  | true =>
    rw [hsm] at csm
    by_cases hlim : ts.length ≤ 80 ∧ wk.length ≤ 80 ∧ cy.length ≤ 80 ∧ st.length ≤ 20
    rotate_left
    · have hlim' : 80 < ts.length ∨ (ts.length ≤ 80 ∧ 80 < wk.length) ∨ (ts.length ≤ 80 ∧ wk.length ≤ 80 ∧ 80 < cy.length) ∨ (ts.length ≤ 80 ∧ wk.length ≤ 80 ∧ cy.length ≤ 80 ∧ 20 < st.length) := by omega
      rcases hlim' with a1 | ⟨a1, a2⟩ | ⟨a1, a2, a3⟩ | ⟨a1, a2, a3, a4⟩
      · have hl1 : (80 : Int) < (ts.length : Int) := by omega
        refine OKat.of_body (rs := [14]) Try.func18 rfl (by decide +kernel) rfl (by simp [Try.ntmps18]) ?_
        simp only [Try.ntmps18]
        repeat' first
          | apply jA | apply jB | apply jC | apply jD | apply jE | apply jF | apply jG | apply jH | apply jI | apply jJ
          | refine W.draw cx_mixed (by decide +kernel) ?_
          | ((first | (apply jK cx_ok; decide) | (apply jL cx_ok; decide; decide) | (apply jN; rfl; decide) | (apply jO; rfl; decide; decide) | apply jR); (simp (disch := omega) only [push_cast, simprocAttr, hl1] <;> rfl); all_goals try ((with_reducible intro hI); try first | (cases hI; done) | (simp only [INTS, zL] at hI; try first | (exfalso; omega) | (have hT : True := hI; clear hT hI))))
          | ((first | (apply jP; rfl; decide) | (apply jQ; rfl; decide; decide)); (simp (disch := omega) only [push_cast, simprocAttr, hl1] <;> rfl))
          | ((first | (apply jV cx_ok; decide) | (apply jW cx_ok; decide; decide)); (iterate 2 (simp (disch := omega) only [push_cast, simprocAttr, hl1] <;> rfl)); (with_reducible first | exact csm | exact c20); try first | rfl | (simp (disch := omega) only [push_cast, simprocAttr, hl1] <;> rfl))
          | ((first | apply jf | apply jg); (iterate 2 (try (simp (disch := omega) only [push_cast, simprocAttr, hl1] <;> rfl))))

        all_goals (show _ = _; rfl)
      · have hl1 : ¬ (80 : Int) < (ts.length : Int) := by omega
        have hl2 : (80 : Int) < (wk.length : Int) := by omega
        refine OKat.of_body (rs := [14]) Try.func18 rfl (by decide +kernel) rfl (by simp [Try.ntmps18]) ?_
        simp only [Try.ntmps18]
        repeat' first
          | apply jA | apply jB | apply jC | apply jD | apply jE | apply jF | apply jG | apply jH | apply jI | apply jJ
          | refine W.draw cx_mixed (by decide +kernel) ?_
          | ((first | (apply jK cx_ok; decide) | (apply jL cx_ok; decide; decide) | (apply jN; rfl; decide) | (apply jO; rfl; decide; decide) | apply jR); (simp (disch := omega) only [push_cast, simprocAttr, hl1, hl2] <;> rfl); all_goals try ((with_reducible intro hI); try first | (cases hI; done) | (simp only [INTS, zL] at hI; try first | (exfalso; omega) | (have hT : True := hI; clear hT hI))))
          | ((first | (apply jP; rfl; decide) | (apply jQ; rfl; decide; decide)); (simp (disch := omega) only [push_cast, simprocAttr, hl1, hl2] <;> rfl))
          | ((first | (apply jV cx_ok; decide) | (apply jW cx_ok; decide; decide)); (iterate 2 (simp (disch := omega) only [push_cast, simprocAttr, hl1, hl2] <;> rfl)); (with_reducible first | exact csm | exact c20); try first | rfl | (simp (disch := omega) only [push_cast, simprocAttr, hl1, hl2] <;> rfl))
          | ((first | apply jf | apply jg); (iterate 2 (try (simp (disch := omega) only [push_cast, simprocAttr, hl1, hl2] <;> rfl))))

        all_goals (show _ = _; rfl)
      · have hl1 : ¬ (80 : Int) < (ts.length : Int) := by omega
        have hl2 : ¬ (80 : Int) < (wk.length : Int) := by omega
        have hl3 : (80 : Int) < (cy.length : Int) := by omega
        refine OKat.of_body (rs := [14]) Try.func18 rfl (by decide +kernel) rfl (by simp [Try.ntmps18]) ?_
        simp only [Try.ntmps18]
        repeat' first
          | apply jA | apply jB | apply jC | apply jD | apply jE | apply jF | apply jG | apply jH | apply jI | apply jJ
          | refine W.draw cx_mixed (by decide +kernel) ?_
          | ((first | (apply jK cx_ok; decide) | (apply jL cx_ok; decide; decide) | (apply jN; rfl; decide) | (apply jO; rfl; decide; decide) | apply jR); (simp (disch := omega) only [push_cast, simprocAttr, hl1, hl2, hl3] <;> rfl); all_goals try ((with_reducible intro hI); try first | (cases hI; done) | (simp only [INTS, zL] at hI; try first | (exfalso; omega) | (have hT : True := hI; clear hT hI))))
          | ((first | (apply jP; rfl; decide) | (apply jQ; rfl; decide; decide)); (simp (disch := omega) only [push_cast, simprocAttr, hl1, hl2, hl3] <;> rfl))
          | ((first | (apply jV cx_ok; decide) | (apply jW cx_ok; decide; decide)); (iterate 2 (simp (disch := omega) only [push_cast, simprocAttr, hl1, hl2, hl3] <;> rfl)); (with_reducible first | exact csm | exact c20); try first | rfl | (simp (disch := omega) only [push_cast, simprocAttr, hl1, hl2, hl3] <;> rfl))
          | ((first | apply jf | apply jg); (iterate 2 (try (simp (disch := omega) only [push_cast, simprocAttr, hl1, hl2, hl3] <;> rfl))))

        all_goals (show _ = _; rfl)
      · have hl1 : ¬ (80 : Int) < (ts.length : Int) := by omega
        have hl2 : ¬ (80 : Int) < (wk.length : Int) := by omega
        have hl3 : ¬ (80 : Int) < (cy.length : Int) := by omega
        have hl4 : (20 : Int) < (st.length : Int) := by omega
        refine OKat.of_body (rs := [14]) Try.func18 rfl (by decide +kernel) rfl (by simp [Try.ntmps18]) ?_
        simp only [Try.ntmps18]
        repeat' first
          | apply jA | apply jB | apply jC | apply jD | apply jE | apply jF | apply jG | apply jH | apply jI | apply jJ
          | refine W.draw cx_mixed (by decide +kernel) ?_
          | ((first | (apply jK cx_ok; decide) | (apply jL cx_ok; decide; decide) | (apply jN; rfl; decide) | (apply jO; rfl; decide; decide) | apply jR); (simp (disch := omega) only [push_cast, simprocAttr, hl1, hl2, hl3, hl4] <;> rfl); all_goals try ((with_reducible intro hI); try first | (cases hI; done) | (simp only [INTS, zL] at hI; try first | (exfalso; omega) | (have hT : True := hI; clear hT hI))))
          | ((first | (apply jP; rfl; decide) | (apply jQ; rfl; decide; decide)); (simp (disch := omega) only [push_cast, simprocAttr, hl1, hl2, hl3, hl4] <;> rfl))
          | ((first | (apply jV cx_ok; decide) | (apply jW cx_ok; decide; decide)); (iterate 2 (simp (disch := omega) only [push_cast, simprocAttr, hl1, hl2, hl3, hl4] <;> rfl)); (with_reducible first | exact csm | exact c20); try first | rfl | (simp (disch := omega) only [push_cast, simprocAttr, hl1, hl2, hl3, hl4] <;> rfl))
          | ((first | apply jf | apply jg); (iterate 2 (try (simp (disch := omega) only [push_cast, simprocAttr, hl1, hl2, hl3, hl4] <;> rfl))))

        all_goals (show _ = _; rfl)
    · obtain ⟨l1, l2, l3, l4⟩ := hlim
      rcases solved0 r with ⟨hc, hs⟩ | ⟨hc, hq, hs⟩ | ⟨hc, hq, hs⟩
      · have hcF : (checkE r = 0) = False := eq_false hc
        have hL : ¬ (80 : Int) < (ts.length : Int) ∧ ¬ (80 : Int) < (wk.length : Int) ∧ ¬ (80 : Int) < (cy.length : Int) ∧ ¬ (20 : Int) < (st.length : Int) := by omega
        have c73b := CheckPath_ok r f t wk (by omega)
        have c28 := CheckClash_ok r cy (by omega)
        have c53 := Fits_ok r st (by omega)
        have c47 := CheckTimes_ok r ts (by omega)
        have c74 := Path_bad r f t hc
        have c73a : OKv cx 73 [.agg (eRec r), ai f, ai t, .lst []] (.tup [ai (checkPathP r f t []).1, ai (checkPathP r f t []).2]) := CheckPath_ok r f t [] (by decide)
        have c59 := Tight_err r _ hc hs
        have c27 := Clash_bad r hc
        rw [show checkPathP r f t [] = (0, checkE r) by unfold checkPathP; rw [if_neg hc]] at c73a
        rw [show checkPathP r f t wk = (0, checkE r) by unfold checkPathP; rw [if_neg hc]] at c73b
        rw [show checkClashE r cy = checkE r by unfold checkClashE; rw [if_neg hc]] at c28
        rw [show fitsP r st = (false, checkE r) by unfold fitsP; rw [if_neg hc]] at c53
        have h8 : checkTimesE r ts = checkE r := by unfold checkTimesE; rw [if_neg hc]
        have h8n : ∀ {A : Prop}, checkTimesE r ts = 0 → A := fun h => by rw [h8] at h; exact absurd h hc
        rw [h8] at c47
        obtain ⟨E, hE⟩ : ∃ z, checkE r = z := ⟨_, rfl⟩
        rw [hE] at c74 c73a c73b c59 c28 c53 c47 c27 hcF
        dsimp only at c73a c73b c53
        refine OKat.of_body (rs := [14]) Try.func18 rfl (by decide +kernel) rfl (by simp [Try.ntmps18]) ?_
        simp only [Try.ntmps18]
        repeat' first
          | refine AW.seqS (y := tail18) ?_ | apply jA | apply jB | apply jC | apply jD | apply jE | apply jF | apply jG | apply jH | apply jI | apply jJ
          | refine W.draw cx_mixed (by decide +kernel) ?_
          | ((first | (apply jK cx_ok; decide) | (apply jL cx_ok; decide; decide) | (apply jN; rfl; decide) | (apply jO; rfl; decide; decide) | apply jR); (simp (disch := omega) only [push_cast, simprocAttr, hL, hcF, natNe, zI, zG, zJ, zM, Bool.true_and, zO, beq_self_eq_true, zP, Bool.not_true, zW, zC] <;> rfl); all_goals try ((with_reducible intro hI); try first | (cases hI; done) | (simp only [INTS, zL] at hI; try first | (exfalso; omega) | (have hT : True := hI; clear hT hI))))
          | ((first | (apply jP; rfl; decide) | (apply jQ; rfl; decide; decide)); (simp (disch := omega) only [push_cast, simprocAttr, hL, hcF, natNe, zI, zG, zJ, zM, Bool.true_and, zO, beq_self_eq_true, zP, Bool.not_true, zW, zC] <;> rfl))
          | ((first | (apply jV cx_ok; decide) | (apply jW cx_ok; decide; decide)); (iterate 2 (simp (disch := omega) only [push_cast, simprocAttr, hL, hcF, natNe, zI, zG, zJ, zM, Bool.true_and, zO, beq_self_eq_true, zP, Bool.not_true, zW, zC] <;> rfl)); (with_reducible first | exact csm | exact c74 | exact c73a | exact c73b | exact c59 | exact c28 | exact c53 | exact c27 | exact c47); try first | rfl | (simp (disch := omega) only [push_cast, simprocAttr, hL, hcF, natNe, zI, zG, zJ, zM, Bool.true_and, zO, beq_self_eq_true, zP, Bool.not_true, zW, zC] <;> rfl))
          | ((first | apply jf | apply jg); (iterate 2 (try (simp (disch := omega) only [push_cast, simprocAttr, hL, hcF, natNe, zI, zG, zJ, zM, Bool.true_and, zO, beq_self_eq_true, zP, Bool.not_true, zW, zC] <;> rfl))))

        all_goals (refine Pg.Stop.mk (tail18_ok r ts f t l1 (e := E) (a := (0 : Int)) (b := (0 : Int)) (g := E) h8n ?_ ?_ ?_ ?_ ?_ ?_ ?_ ?_ ?_ ?_) <;> first | (simp (disch := omega) only [push_cast, simprocAttr, natNe, zI, zG, zJ, zM, Bool.true_and, zO, beq_self_eq_true, zP, Bool.not_true, zW, zC, hL, hcF] <;> first | rfl | omega) | omega)
      · exact law18_clash r ts f t wk cy st hc hq csm l1 l2 l3 l4 hs
      · exact law18_cons r ts f t wk cy st hc hq csm l1 l2 l3 l4
end Go.Proofs.Ks
