/-
  Contracts of functions, proved by going through their code. No conditions.
-/
import Derived.Test.YtdlflcambboojaaKaa
import Derived.Test.YtdlflcambboojaaKbd
import Derived.Test.YtdlflcambboojaaKbf
import Derived.Test.YtdlflcambboojaaKuB
import Derived.Test.YtdlflcambboojaaKuC
set_option linter.unusedVariables false
set_option linter.unusedSimpArgs false
set_option maxHeartbeats 8000000
set_option maxRecDepth 10000
namespace Go.Proofs.Ks
open Go Go.Pg Go.Proofs
theorem law9_ok (r : Rec) (ids : List Int) : OKv cx 9 [.agg (eRec r), lInt ids] (ab true) := by
  have csm := small_ok r
  have c20 := sanity_ok
  have c33 := Check_ok r
  have c21 := RCheck_ok r
  cases hsm : smallB r with
  | false =>
    rw [hsm] at csm
    refine OKat.of_body (rs := [4]) Try.func9 rfl (by decide +kernel) rfl (by simp [Try.ntmps9]) ?_
    simp only [Try.ntmps9]
    repeat' first
      | apply AW.seq | apply AW.region | apply AW.ret | apply AW.block | apply AW.skip | apply AW.exit | apply AW.scope | apply AW.label | apply AWL.nil | apply D.nil
      | refine W.draw cx_mixed (by decide +kernel) ?_
      | ((first | (apply W.step cx_ok; decide) | (apply D.step cx_ok; decide; decide) | apply W.store cx_ok | (apply W.gS; rfl; decide) | (apply D.gS; rfl; decide; decide) | apply AW.cond); (simp (disch := omega) only [push_cast, simprocAttr] <;> rfl); all_goals try ((with_reducible intro hI); try first | (cases hI; done) | (simp only [INTS, zL] at hI; try first | (exfalso; omega) | (have hT : True := hI; clear hT hI))))
      | ((first | (apply W.callv cx_ok; decide) | (apply D.callv cx_ok; decide; decide)); (iterate 2 (simp (disch := omega) only [push_cast, simprocAttr] <;> rfl)); (with_reducible first | exact csm | exact c20); try first | rfl | (simp (disch := omega) only [push_cast, simprocAttr] <;> rfl))
      | ((first | apply W.ret1 | apply W.end1); (iterate 2 (try (simp (disch := omega) only [push_cast, simprocAttr] <;> rfl))))

    all_goals (show _ = _; rfl)
  | true =>
    rw [hsm] at csm
    by_cases hl : 30 < ids.length
    · have hlI : (30 : Int) < (ids.length : Int) := by omega
      refine OKat.of_body (rs := [4]) Try.func9 rfl (by decide +kernel) rfl (by simp [Try.ntmps9]) ?_
      simp only [Try.ntmps9]
      repeat' first
        | apply AW.seq | apply AW.region | apply AW.ret | apply AW.block | apply AW.skip | apply AW.exit | apply AW.scope | apply AW.label | apply AWL.nil | apply D.nil
        | refine W.draw cx_mixed (by decide +kernel) ?_
        | ((first | (apply W.step cx_ok; decide) | (apply D.step cx_ok; decide; decide) | apply W.store cx_ok | (apply W.gS; rfl; decide) | (apply D.gS; rfl; decide; decide) | apply AW.cond); (simp (disch := omega) only [push_cast, simprocAttr, hlI] <;> rfl); all_goals try ((with_reducible intro hI); try first | (cases hI; done) | (simp only [INTS, zL] at hI; try first | (exfalso; omega) | (have hT : True := hI; clear hT hI))))
        | ((first | (apply W.callv cx_ok; decide) | (apply D.callv cx_ok; decide; decide)); (iterate 2 (simp (disch := omega) only [push_cast, simprocAttr, hlI] <;> rfl)); (with_reducible first | exact csm | exact c20); try first | rfl | (simp (disch := omega) only [push_cast, simprocAttr, hlI] <;> rfl))
        | ((first | apply W.ret1 | apply W.end1); (iterate 2 (try (simp (disch := omega) only [push_cast, simprocAttr, hlI] <;> rfl))))

      all_goals (show _ = _; rfl)
    · have hlI : ¬ (30 : Int) < (ids.length : Int) := by omega
      by_cases hc : checkE r = 0
      · have hv := checkE_V hc
        have hns := hv.nstrikes
        have hng := hv.nsights
        have hnt := hv.nstops
        obtain ⟨f1, f2, _⟩ := links_facts (more := []) hv (by decide) nomore
        have c44 := Nodes_good r hc
        have c40 := Links_good r hc
        have c38 := Without_good r ids hc (by omega)
        have c46 := rNodes_ok r hv
        have c43 := rLinks_ok r hv
        have c39 := RWithout_ok r ids (by omega) (by omega) (by omega)
        have c45 := SameNodes_same (nodesR r []) (by omega)
        have c42 := SameLinks_same (linksR r []) (by omega)
        have g1 : (withoutR r ids).strikes.length ≤ r.strikes.length := List.length_filter_le ..
        have g2 : (withoutR r ids).sights.length ≤ r.sights.length := List.length_filter_le ..
        have c41 := SameRec_same (withoutR r ids) (show r.s.stops.length ≤ _ by omega) (by omega) (by omega)
        obtain ⟨NN, hNN⟩ : ∃ z, nodesR r [] = z := ⟨_, rfl⟩
        obtain ⟨LL, hLL⟩ : ∃ z, linksR r [] = z := ⟨_, rfl⟩
        obtain ⟨WR, hWR⟩ : ∃ z, withoutR r ids = z := ⟨_, rfl⟩
        rw [hNN] at c44 c46 c45
        rw [hLL] at c40 c43 c42
        rw [hWR] at c38 c39 c41
        clear g1 g2
        refine OKat.of_body (rs := [4]) Try.func9 rfl (by decide +kernel) rfl (by simp [Try.ntmps9]) ?_
        simp only [Try.ntmps9]
        repeat' first
          | apply AW.seq | apply AW.region | apply AW.ret | apply AW.block | apply AW.skip | apply AW.exit | apply AW.scope | apply AW.label | apply AWL.nil | apply D.nil
          | refine W.draw cx_mixed (by decide +kernel) ?_
          | ((first | (apply W.step cx_ok; decide) | (apply D.step cx_ok; decide; decide) | apply W.store cx_ok | (apply W.gS; rfl; decide) | (apply D.gS; rfl; decide; decide) | apply AW.cond); (simp (disch := omega) only [push_cast, simprocAttr, hlI, hc, natNe, zI, zG, TyD.isAgg, zJ, zM, Bool.true_and, zO, beq_self_eq_true, zP] <;> rfl); all_goals try ((with_reducible intro hI); try first | (cases hI; done) | (simp only [INTS, zL] at hI; try first | (exfalso; omega) | (have hT : True := hI; clear hT hI))))
          | ((first | (apply W.callv cx_ok; decide) | (apply D.callv cx_ok; decide; decide)); (iterate 2 (simp (disch := omega) only [push_cast, simprocAttr, hlI, hc, natNe, zI, zG, TyD.isAgg, zJ, zM, Bool.true_and, zO, beq_self_eq_true, zP] <;> rfl)); (with_reducible first | exact csm | exact c20 | exact c33 | exact c21 | exact c44 | exact c40 | exact c38 | exact c46 | exact c43 | exact c39 | exact c45 | exact c42 | exact c41); try first | rfl | (simp (disch := omega) only [push_cast, simprocAttr, hlI, hc, natNe, zI, zG, TyD.isAgg, zJ, zM, Bool.true_and, zO, beq_self_eq_true, zP] <;> rfl))
          | ((first | apply W.ret1 | apply W.end1); (iterate 2 (try (simp (disch := omega) only [push_cast, simprocAttr, hlI, hc, natNe, zI, zG, TyD.isAgg, zJ, zM, Bool.true_and, zO, beq_self_eq_true, zP] <;> rfl))))

        all_goals (show _ = _; rfl)
      · have hcF : (checkE r = 0) = False := eq_false hc
        have c44 := Nodes_bad r hc
        have c40 := Links_bad r hc
        have c38 := Without_bad r ids hc
        have c41 := SameRec_zero
        obtain ⟨E, hE⟩ : ∃ z, checkE r = z := ⟨_, rfl⟩
        rw [hE] at c33 c21 c44 c40 c38 hcF
        refine OKat.of_body (rs := [4]) Try.func9 rfl (by decide +kernel) rfl (by simp [Try.ntmps9]) ?_
        simp only [Try.ntmps9]
        repeat' first
          | apply AW.seq | apply AW.region | apply AW.ret | apply AW.block | apply AW.skip | apply AW.exit | apply AW.scope | apply AW.label | apply AWL.nil | apply D.nil
          | refine W.draw cx_mixed (by decide +kernel) ?_
          | ((first | (apply W.step cx_ok; decide) | (apply D.step cx_ok; decide; decide) | apply W.store cx_ok | (apply W.gS; rfl; decide) | (apply D.gS; rfl; decide; decide) | apply AW.cond); (simp (disch := omega) only [push_cast, simprocAttr, hlI, hcF, natNe, zI, zG, TyD.isAgg, zJ, zM, Bool.true_and, zO, beq_self_eq_true, zP] <;> rfl); all_goals try ((with_reducible intro hI); try first | (cases hI; done) | (simp only [INTS, zL] at hI; try first | (exfalso; omega) | (have hT : True := hI; clear hT hI))))
          | ((first | (apply W.callv cx_ok; decide) | (apply D.callv cx_ok; decide; decide)); (iterate 2 (simp (disch := omega) only [push_cast, simprocAttr, hlI, hcF, natNe, zI, zG, TyD.isAgg, zJ, zM, Bool.true_and, zO, beq_self_eq_true, zP] <;> rfl)); (with_reducible first | exact csm | exact c20 | exact c33 | exact c21 | exact c44 | exact c40 | exact c38 | exact c41); try first | rfl | (simp (disch := omega) only [push_cast, simprocAttr, hlI, hcF, natNe, zI, zG, TyD.isAgg, zJ, zM, Bool.true_and, zO, beq_self_eq_true, zP] <;> rfl))
          | ((first | apply W.ret1 | apply W.end1); (iterate 2 (try (simp (disch := omega) only [push_cast, simprocAttr, hlI, hcF, natNe, zI, zG, TyD.isAgg, zJ, zM, Bool.true_and, zO, beq_self_eq_true, zP] <;> rfl))))

        all_goals (show _ = _; rfl)
end Go.Proofs.Ks
