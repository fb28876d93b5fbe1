/-
  Contracts of functions, proved by going through their code. No conditions.
-/
import Derived.Test.YtofdhddbfjfkcaaDoorHc
import Derived.Test.YtofdhddbfjfkcaaDoorHf
import Derived.Test.YtofdhddbfjfkcaaDoorVn
set_option maxHeartbeats 8000000
set_option linter.unusedSimpArgs false
set_option linter.unusedVariables false
set_option maxRecDepth 10000
namespace Go.Proofs.Hs
open Go Go.Pg Go.Proofs

theorem law17_ok (h : House) (n0 t : Int) (rooms : List Int) (hn : ∀ r ∈ h.rooms, r.name.size ≤ 9223372036854775807) : OKv cx 17 [.agg (eHouse h), ai n0, ai t, lInt rooms] (ab true) := by
  by_cases hf : few h = true
  · have hfit := few_fit hf hn
    have hrl := hfit.rooms
    by_cases hl80 : rooms.length ≤ 80
    ·
      refine OKat.of_body (rs := [8]) Tryd.func17 rfl (by decide +kernel) rfl (by simp [Tryd.ntmps17]) ?_
      simp only [Tryd.ntmps17]
      repeat' first
        | apply AW.seq | apply AW.region | apply AW.ret | apply AW.block | apply AW.skip | apply AW.exit | apply AW.scope | apply AW.label | apply AWL.nil
        | ((first | (apply W.step cx_ok; decide) | apply W.store cx_ok | (apply W.gS; rfl; decide) | apply AW.cond); (simp (disch := omega) only [push_cast, simprocAttr, hf] <;> rfl); all_goals try ((with_reducible intro hI); try first | (cases hI; done) | (simp only [INTS, not_true_eq_false] at hI; try first | (exfalso; omega) | (have hT : True := hI; clear hT hI))))
        | ((apply W.callv cx_ok; decide); (iterate 2 (simp (disch := omega) only [push_cast, simprocAttr, hf] <;> rfl)); (with_reducible first | exact few_ok _ | exact sanity_ok | exact Tour_ok _ _ _ hfit (by omega) | exact TourR_ok _ _ _ hfit (by omega) | exact Nearest_ok _ _ _ _ hfit (by omega) | exact NearestR_ok _ _ _ _ hfit (by omega)); try first | rfl | (simp (disch := omega) only [push_cast, simprocAttr, hf] <;> rfl))
        | ((first | apply W.ret1 | apply W.end1); (iterate 2 (try (simp (disch := omega) only [push_cast, simprocAttr, hf] <;> rfl))))
      all_goals (show _ = _; first | rfl | (simp_all; done))
    ·
      refine OKat.of_body (rs := [8]) Tryd.func17 rfl (by decide +kernel) rfl (by simp [Tryd.ntmps17]) ?_
      simp only [Tryd.ntmps17]
      repeat' first
        | apply AW.seq | apply AW.region | apply AW.ret | apply AW.block | apply AW.skip | apply AW.exit | apply AW.scope | apply AW.label | apply AWL.nil
        | ((first | (apply W.step cx_ok; decide) | apply W.store cx_ok | (apply W.gS; rfl; decide) | apply AW.cond); (simp (disch := omega) only [push_cast, simprocAttr, hf] <;> rfl); all_goals try ((with_reducible intro hI); try first | (cases hI; done) | (simp only [INTS, not_true_eq_false] at hI; try first | (exfalso; omega) | (have hT : True := hI; clear hT hI))))
        | ((apply W.callv cx_ok; decide); (iterate 2 (simp (disch := omega) only [push_cast, simprocAttr, hf] <;> rfl)); (with_reducible first | exact few_ok _ | exact sanity_ok); try first | rfl | (simp (disch := omega) only [push_cast, simprocAttr, hf] <;> rfl))
        | ((first | apply W.ret1 | apply W.end1); (iterate 2 (try (simp (disch := omega) only [push_cast, simprocAttr, hf] <;> rfl))))
      all_goals (show _ = _; first | rfl | (simp_all; done))
  · have hf' : few h = false := by simpa using hf
    refine OKat.of_body (rs := [8]) Tryd.func17 rfl (by decide +kernel) rfl (by simp [Tryd.ntmps17]) ?_
    simp only [Tryd.ntmps17]
    repeat' first
      | apply AW.seq | apply AW.region | apply AW.ret | apply AW.block | apply AW.skip | apply AW.exit | apply AW.scope | apply AW.label | apply AWL.nil
      | ((first | (apply W.step cx_ok; decide) | apply W.store cx_ok | (apply W.gS; rfl; decide) | apply AW.cond); (simp (disch := omega) only [push_cast, simprocAttr, hf'] <;> rfl); all_goals try ((with_reducible intro hI); try first | (cases hI; done) | (simp only [INTS, not_true_eq_false] at hI; try first | (exfalso; omega) | (have hT : True := hI; clear hT hI))))
      | ((apply W.callv cx_ok; decide); (iterate 2 (simp (disch := omega) only [push_cast, simprocAttr, hf'] <;> rfl)); (with_reducible first | exact few_ok _ | exact sanity_ok); try first | rfl | (simp (disch := omega) only [push_cast, simprocAttr, hf'] <;> rfl))
      | ((first | apply W.ret1 | apply W.end1); (iterate 2 (try (simp (disch := omega) only [push_cast, simprocAttr, hf'] <;> rfl))))
    all_goals (show _ = _; first | rfl | (simp_all; done))

end Go.Proofs.Hs
