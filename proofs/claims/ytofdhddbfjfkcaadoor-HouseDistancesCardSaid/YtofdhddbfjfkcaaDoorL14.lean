/-
  Contracts of functions, proved by going through their code. No conditions.
-/
import Derived.Test.YtofdhddbfjfkcaaDoorHc
import Derived.Test.YtofdhddbfjfkcaaDoorHf
import Derived.Test.YtofdhddbfjfkcaaDoorVm
set_option maxHeartbeats 8000000
set_option linter.unusedSimpArgs false
set_option linter.unusedVariables false
set_option maxRecDepth 10000
namespace Go.Proofs.Hs
open Go Go.Pg Go.Proofs

theorem law14_ok (h : House) (a b : Int) (hn : ∀ r ∈ h.rooms, r.name.size ≤ 9223372036854775807) : OKv cx 14 [.agg (eHouse h), ai a, ai b] (ab true) := by
  by_cases hf : few h = true
  · have hfit := few_fit hf hn
    have hrl := hfit.rooms
    by_cases hc : (Check h).1 = 0
    · have hv := Check_V hc
      have hE : distancesH h = (distsH h, 0) := if_neg (by simp [hc])
      have hdl := dists_len h
      refine OKat.of_body (rs := [6]) Tryd.func14 rfl (by decide +kernel) rfl (by simp [Tryd.ntmps14]) ?_
      simp only [Tryd.ntmps14]
      repeat' first
        | apply AW.seq | apply AW.region | apply AW.ret | apply AW.block | apply AW.skip | apply AW.exit | apply AW.scope | apply AW.label | apply AWL.nil | apply D.nil
        | refine W.draw cx_mixed (by decide +kernel) ?_
        | ((first | (apply W.step cx_ok; decide) | (apply D.step cx_ok; decide; decide) | (apply W.gS; rfl; decide) | (apply D.gS; rfl; decide; decide) | apply AW.cond); (simp (disch := omega) only [push_cast, simprocAttr, hf, hc, hE, hdl] <;> rfl); all_goals try ((with_reducible intro hI); try first | (cases hI; done) | (simp only [INTS, not_true_eq_false] at hI; try first | (exfalso; omega) | (have hT : True := hI; clear hT hI))))
        | ((first | (apply W.callv cx_ok; decide) | (apply D.callv cx_ok; decide; decide)); (iterate 2 (simp (disch := omega) only [push_cast, simprocAttr, hf, hc, hE, hdl] <;> rfl)); (with_reducible first | exact few_ok _ | exact sanity_ok | exact Least_ok _ _ _ hfit | exact LeastR_ok _ _ _ hfit | exact Distances_ok _ hfit | exact Error_ok _ hfit); try first | rfl | (simp (disch := omega) only [push_cast, simprocAttr, hf, hc, hE, hdl] <;> rfl))
        | ((first | apply W.ret1 | apply W.end1); (iterate 2 (try (simp (disch := omega) only [push_cast, simprocAttr, hf, hc, hE, hdl] <;> rfl))))
      refine AW.loop (fun n s => ∃ (k : Nat), n = h.rooms.length - k ∧ (k ≤ h.rooms.length) ∧ 1 ≤ s.nx ∧ s.tm 3 = .ptr 0 0 0 1 ∧ s.tm 11 = .lst ((distsH h).map eRow) ∧ s.tm 13 = ai k ∧ Pg.rowAt s.H (0) = some ({ k := 3, es := [eHouse h], ty := 26 })) (h.rooms.length) ⟨0, rfl, (Nat.zero_le _), ?_, ?_, ?_, ?_, ?_⟩ ?_
      iterate 5 (first | (simp (disch := omega) only [push_cast, simprocAttr, hf, hc, hE, hdl] <;> first | rfl | omega) | omega)
      rintro n s ⟨k, hn, hp0, hnl, hS⟩
      have hZ : (0 : Nat) ≠ s.nx ∧ s.nx ≠ (0 : Nat) := by omega
      by_cases hk : k < h.rooms.length
      · have hk1 : (k : Int) < (h.rooms.length : Int) := by omega
        have hk2 : k < (distsH h).length := by omega
        have hgA := dists_at h (a := k) hk
        have hro := Row_ok h (k : Int) hfit hv ⟨by omega, hk1⟩
        have hrl2 : (distH h k).length = h.rooms.length := (dist_sim hv hk).2.len
        rw [Int.toNat_natCast] at hro
        repeat' first
          | apply AW.seq | apply AW.region | apply AW.ret | apply AW.block | apply AW.skip | apply AW.exit | apply AW.scope | apply AW.label | apply AWL.nil | apply D.nil
          | refine W.draw cx_mixed (by decide +kernel) ?_
          | ((first | (apply W.step cx_ok; decide) | (apply D.step cx_ok; decide; decide) | (apply W.gS; rfl; decide) | (apply D.gS; rfl; decide; decide) | apply AW.cond); (simp (disch := omega) only [push_cast, simprocAttr, hS, hZ, hk1, hk2, hdl, hgA] <;> rfl); all_goals try ((with_reducible intro hI); try first | (cases hI; done) | (simp only [INTS, not_true_eq_false] at hI; try first | (exfalso; omega) | (have hT : True := hI; clear hT hI))))
          | ((first | (apply W.callv cx_ok; decide) | (apply D.callv cx_ok; decide; decide)); (iterate 2 (simp (disch := omega) only [push_cast, simprocAttr, hS, hZ, hk1, hk2, hdl, hgA] <;> rfl)); (with_reducible first | exact hro | exact SameR_ok _ (by omega)); try first | rfl | (simp (disch := omega) only [push_cast, simprocAttr, hS, hZ, hk1, hk2, hdl, hgA] <;> rfl))
          | ((first | apply W.ret1 | apply W.end1); (iterate 2 (try (simp (disch := omega) only [push_cast, simprocAttr, hS, hZ, hk1, hk2, hdl, hgA] <;> rfl))))
        all_goals (refine ⟨h.rooms.length - (k + 1), ?_, k + 1, rfl, (by omega), ?_, ?_, ?_, ?_, ?_⟩; ((omega)); all_goals first | (simp (disch := omega) only [push_cast, simprocAttr, hS, hZ, hk1, hdl] <;> first | rfl | omega) | omega)
      · have hk1 : ¬ ((k : Int) < (h.rooms.length : Int)) := by omega
        repeat' first
          | apply AW.seq | apply AW.region | apply AW.ret | apply AW.block | apply AW.skip | apply AW.exit | apply AW.scope | apply AW.label | apply AWL.nil | apply D.nil
          | refine W.draw cx_mixed (by decide +kernel) ?_
          | ((first | (apply W.step cx_ok; decide) | (apply D.step cx_ok; decide; decide) | (apply W.gS; rfl; decide) | (apply D.gS; rfl; decide; decide) | apply AW.cond); (simp (disch := omega) only [push_cast, simprocAttr, hS, hZ, hk1, hdl] <;> rfl); all_goals try ((with_reducible intro hI); try first | (cases hI; done) | (simp only [INTS, not_true_eq_false] at hI; try first | (exfalso; omega) | (have hT : True := hI; clear hT hI))))
          | ((first | (apply W.callv cx_ok; decide) | (apply D.callv cx_ok; decide; decide)); (iterate 2 (simp (disch := omega) only [push_cast, simprocAttr, hS, hZ, hk1, hdl] <;> rfl)); (with_reducible first | exact few_ok _ | exact sanity_ok | exact Least_ok _ _ _ hfit | exact LeastR_ok _ _ _ hfit | exact Distances_ok _ hfit | exact Error_ok _ hfit); try first | rfl | (simp (disch := omega) only [push_cast, simprocAttr, hS, hZ, hk1, hdl] <;> rfl))
          | ((first | apply W.ret1 | apply W.end1); (iterate 2 (try (simp (disch := omega) only [push_cast, simprocAttr, hS, hZ, hk1, hdl] <;> rfl))))
        all_goals (show _ = _; first | rfl | (simp_all; done))
    · have hE : distancesH h = ([], (Check h).1) := if_pos hc
      refine OKat.of_body (rs := [6]) Tryd.func14 rfl (by decide +kernel) rfl (by simp [Tryd.ntmps14]) ?_
      simp only [Tryd.ntmps14]
      repeat' first
        | apply AW.seq | apply AW.region | apply AW.ret | apply AW.block | apply AW.skip | apply AW.exit | apply AW.scope | apply AW.label | apply AWL.nil | apply D.nil
        | refine W.draw cx_mixed (by decide +kernel) ?_
        | ((first | (apply W.step cx_ok; decide) | (apply D.step cx_ok; decide; decide) | (apply W.gS; rfl; decide) | (apply D.gS; rfl; decide; decide) | apply AW.cond); (simp (disch := omega) only [push_cast, simprocAttr, hf, hc, hE] <;> rfl); all_goals try ((with_reducible intro hI); try first | (cases hI; done) | (simp only [INTS, not_true_eq_false] at hI; try first | (exfalso; omega) | (have hT : True := hI; clear hT hI))))
        | ((first | (apply W.callv cx_ok; decide) | (apply D.callv cx_ok; decide; decide)); (iterate 2 (simp (disch := omega) only [push_cast, simprocAttr, hf, hc, hE] <;> rfl)); (with_reducible first | exact few_ok _ | exact sanity_ok | exact Least_ok _ _ _ hfit | exact LeastR_ok _ _ _ hfit | exact Distances_ok _ hfit | exact Error_ok _ hfit); try first | rfl | (simp (disch := omega) only [push_cast, simprocAttr, hf, hc, hE] <;> rfl))
        | ((first | apply W.ret1 | apply W.end1); (iterate 2 (try (simp (disch := omega) only [push_cast, simprocAttr, hf, hc, hE] <;> rfl))))
      all_goals (show _ = _; first | rfl | (simp_all; done))
  · have hf' : few h = false := by simpa using hf
    refine OKat.of_body (rs := [6]) Tryd.func14 rfl (by decide +kernel) rfl (by simp [Tryd.ntmps14]) ?_
    simp only [Tryd.ntmps14]
    repeat' first
      | apply AW.seq | apply AW.region | apply AW.ret | apply AW.block | apply AW.skip | apply AW.exit | apply AW.scope | apply AW.label | apply AWL.nil | apply D.nil
      | refine W.draw cx_mixed (by decide +kernel) ?_
      | ((first | (apply W.step cx_ok; decide) | (apply D.step cx_ok; decide; decide) | (apply W.gS; rfl; decide) | (apply D.gS; rfl; decide; decide) | apply AW.cond); (simp (disch := omega) only [push_cast, simprocAttr, hf'] <;> rfl); all_goals try ((with_reducible intro hI); try first | (cases hI; done) | (simp only [INTS, not_true_eq_false] at hI; try first | (exfalso; omega) | (have hT : True := hI; clear hT hI))))
      | ((first | (apply W.callv cx_ok; decide) | (apply D.callv cx_ok; decide; decide)); (iterate 2 (simp (disch := omega) only [push_cast, simprocAttr, hf'] <;> rfl)); (with_reducible first | exact few_ok _ | exact sanity_ok); try first | rfl | (simp (disch := omega) only [push_cast, simprocAttr, hf'] <;> rfl))
      | ((first | apply W.ret1 | apply W.end1); (iterate 2 (try (simp (disch := omega) only [push_cast, simprocAttr, hf'] <;> rfl))))
    all_goals (show _ = _; first | rfl | (simp_all; done))

end Go.Proofs.Hs
