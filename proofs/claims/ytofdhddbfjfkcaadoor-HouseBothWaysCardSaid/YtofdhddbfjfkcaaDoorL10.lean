/-
  Contracts of functions, proved by going through their code. No conditions.
-/
import Derived.Test.YtofdhddbfjfkcaaDoorHf
import Derived.Test.YtofdhddbfjfkcaaDoorVi
set_option maxHeartbeats 8000000
set_option linter.unusedSimpArgs false
set_option linter.unusedVariables false
set_option maxRecDepth 10000
namespace Go.Proofs.Hs
open Go Go.Pg Go.Proofs

theorem law10_ok (h : House) (a ta b tb : Int) (l : List Int) (hn : ∀ r ∈ h.rooms, r.name.size ≤ 9223372036854775807) : OKv cx 10 [.agg (eHouse h), ai a, ai ta, ai b, ai tb, lInt l] (ab true) := by
  by_cases hr : (few h && decide ((Check h).1 = 0)) = true
  ·
    by_cases hta : (decide (0 ≤ ta) && decide (ta ≤ 1073741823)) = true
    ·
      by_cases htb : (decide (0 ≤ tb) && decide (tb ≤ 1073741823)) = true
      ·
        by_cases hl40 : l.length ≤ 40
        ·
          obtain ⟨hf, hc⟩ : few h = true ∧ (Check h).1 = 0 := by simpa using hr
          have hfit := few_fit hf hn
          have hv := Check_V hc
          have hrl := hv.rooms
          have htab : 0 ≤ ta ∧ ta ≤ 1073741823 := by simpa using hta
          have htbb : 0 ≤ tb ∧ tb ≤ 1073741823 := by simpa using htb
          obtain ⟨F, hF⟩ : ∃ x, someN a h.rooms.length = x := ⟨_, rfl⟩
          have hFb := someN_lt a (k := (h.rooms.length : Int)) (by omega)
          rw [hF] at hFb
          obtain ⟨T, hT⟩ : ∃ x, someN b h.rooms.length = x := ⟨_, rfl⟩
          have hTb := someN_lt b (k := (h.rooms.length : Int)) (by omega)
          rw [hT] at hTb
          have q1r : roomE h F ta = 0 := by unfold roomE; rw [if_neg (by simp [hc]), if_neg (by omega)]
          obtain ⟨X, hX⟩ : ∃ x, (arrH h F.toNat ta).1 = x := ⟨_, rfl⟩
          have hXl : X.length = h.rooms.length := by rw [← hX]; exact (arrH_len h _ _).1
          have q1 : earliestH h F ta = (X, 0) := by rw [← hX]; exact if_neg (by simp [q1r])
          have q2r : roomE h T tb = 0 := by unfold roomE; rw [if_neg (by simp [hc]), if_neg (by omega)]
          obtain ⟨Y, hY⟩ : ∃ x, late h T.toNat tb = x := ⟨_, rfl⟩
          have hYl : Y.length = h.rooms.length := by rw [← hY]; unfold late; rw [lateF_len]; simp
          have q2 : latestH h T tb = (Y, 0) := by rw [← hY]; exact if_neg (by simp [q2r])
          have q0 : askedE h [F, T] [ta, tb] = 0 := by rw [askedE_two, if_neg (by simp [q1r]), q2r]
          have hcb := canBack hv hFb hTb htab htbb
          have q3 : canH h F ta T tb = (decide (X.getD T.toNat 0 ≤ tb), 0) := by rw [← hX]; exact if_neg (by simp [q0])
          by_cases hle : X.getD T.toNat 0 ≤ tb
          ·
            have q4 : wallH h F ta T tb = ([], 5) := by unfold wallH; rw [if_neg (by simp [q0]), hX, if_pos hle]
            have q5 : checkWallH h F ta T tb l = 8 := by unfold checkWallH; rw [if_neg (by simp [q0]), nowall hv hFb hTb htab (by rw [hX]; exact hle)]; rfl
            rw [hX, hY] at hcb
            have hge : ta ≤ Y.getD F.toNat 0 := hcb.1 hle
            refine OKat.of_body (rs := [12]) Tryd.func10 rfl (by decide +kernel) rfl (by simp [Tryd.ntmps10]) ?_
            simp only [Tryd.ntmps10]
            repeat' first
              | apply AW.seq | apply AW.region | apply AW.ret | apply AW.block | apply AW.skip | apply AW.exit | apply AW.scope | apply AW.label | apply AWL.nil
              | ((first | (apply W.step cx_ok; decide) | (apply W.gS; rfl; decide) | apply AW.cond); (simp (disch := omega) only [push_cast, simprocAttr, hr, hta, htb, hl40, hF, hT, hFb, hTb, hXl, hYl, q1, q2, q3, q4, q5, hle, hge] <;> rfl); all_goals try ((with_reducible intro hI); try first | (cases hI; done) | (simp only [INTS] at hI; try first | (exfalso; omega) | (have hT : True := hI; clear hT hI))))
              | ((apply W.callv cx_ok; decide); (iterate 2 (simp (disch := omega) only [push_cast, simprocAttr, hr, hta, htb, hl40, hF, hT, hFb, hTb, hXl, hYl, q1, q2, q3, q4, q5, hle, hge] <;> rfl)); (with_reducible first | exact right_ok _ hn | exact sanity_ok | exact Time_ok _ | exact some_ok _ _ (by omega) | exact Can_ok _ _ _ _ _ hfit | exact Earliest_ok _ _ _ hfit | exact Latest_ok _ _ _ hfit | exact Wall_ok _ _ _ _ _ hfit | exact CheckWall_ok _ _ _ _ _ _ hfit (by omega)); try first | rfl | (simp (disch := omega) only [push_cast, simprocAttr, hr, hta, htb, hl40, hF, hT, hFb, hTb, hXl, hYl, q1, q2, q3, q4, q5, hle, hge] <;> rfl))
              | ((first | apply W.ret1 | apply W.end1); (iterate 2 (try (simp (disch := omega) only [push_cast, simprocAttr, hr, hta, htb, hl40, hF, hT, hFb, hTb, hXl, hYl, q1, q2, q3, q4, q5, hle, hge] <;> rfl))))
            all_goals (show _ = _; first | rfl | (simp_all; done))
          ·
            have q4 : wallH h F ta T tb = (X, 0) := by unfold wallH; rw [if_neg (by simp [q0]), hX, if_neg hle]
            have q5 : checkWallH h F ta T tb X = 0 := by unfold checkWallH; rw [if_neg (by simp [q0]), ← hX, if_pos (wall_true hv hFb hTb htab (by rw [hX]; exact hle))]
            rw [hX, hY] at hcb
            have hge : ¬ ta ≤ Y.getD F.toNat 0 := fun hh => hle (hcb.2 hh)
            refine OKat.of_body (rs := [12]) Tryd.func10 rfl (by decide +kernel) rfl (by simp [Tryd.ntmps10]) ?_
            simp only [Tryd.ntmps10]
            repeat' first
              | apply AW.seq | apply AW.region | apply AW.ret | apply AW.block | apply AW.skip | apply AW.exit | apply AW.scope | apply AW.label | apply AWL.nil
              | ((first | (apply W.step cx_ok; decide) | (apply W.gS; rfl; decide) | apply AW.cond); (simp (disch := omega) only [push_cast, simprocAttr, hr, hta, htb, hl40, hF, hT, hFb, hTb, hXl, hYl, q1, q2, q3, q4, q5, hle, hge] <;> rfl); all_goals try ((with_reducible intro hI); try first | (cases hI; done) | (simp only [INTS] at hI; try first | (exfalso; omega) | (have hT : True := hI; clear hT hI))))
              | ((apply W.callv cx_ok; decide); (iterate 2 (simp (disch := omega) only [push_cast, simprocAttr, hr, hta, htb, hl40, hF, hT, hFb, hTb, hXl, hYl, q1, q2, q3, q4, q5, hle, hge] <;> rfl)); (with_reducible first | exact right_ok _ hn | exact sanity_ok | exact Time_ok _ | exact some_ok _ _ (by omega) | exact Can_ok _ _ _ _ _ hfit | exact Earliest_ok _ _ _ hfit | exact Latest_ok _ _ _ hfit | exact Wall_ok _ _ _ _ _ hfit | exact CheckWall_ok _ _ _ _ _ _ hfit (by omega)); try first | rfl | (simp (disch := omega) only [push_cast, simprocAttr, hr, hta, htb, hl40, hF, hT, hFb, hTb, hXl, hYl, q1, q2, q3, q4, q5, hle, hge] <;> rfl))
              | ((first | apply W.ret1 | apply W.end1); (iterate 2 (try (simp (disch := omega) only [push_cast, simprocAttr, hr, hta, htb, hl40, hF, hT, hFb, hTb, hXl, hYl, q1, q2, q3, q4, q5, hle, hge] <;> rfl))))
            all_goals (show _ = _; first | rfl | (simp_all; done))
        ·
          refine OKat.of_body (rs := [12]) Tryd.func10 rfl (by decide +kernel) rfl (by simp [Tryd.ntmps10]) ?_
          simp only [Tryd.ntmps10]
          repeat' first
            | apply AW.seq | apply AW.region | apply AW.ret | apply AW.block | apply AW.skip | apply AW.exit | apply AW.scope | apply AW.label | apply AWL.nil
            | ((first | (apply W.step cx_ok; decide) | (apply W.gS; rfl; decide) | apply AW.cond); (simp (disch := omega) only [push_cast, simprocAttr, hr, hta, htb, hl40] <;> rfl); all_goals try ((with_reducible intro hI); try first | (cases hI; done) | (simp only [INTS] at hI; try first | (exfalso; omega) | (have hT : True := hI; clear hT hI))))
            | ((apply W.callv cx_ok; decide); (iterate 2 (simp (disch := omega) only [push_cast, simprocAttr, hr, hta, htb, hl40] <;> rfl)); (with_reducible first | exact right_ok _ hn | exact sanity_ok | exact Time_ok _); try first | rfl | (simp (disch := omega) only [push_cast, simprocAttr, hr, hta, htb, hl40] <;> rfl))
            | ((first | apply W.ret1 | apply W.end1); (iterate 2 (try (simp (disch := omega) only [push_cast, simprocAttr, hr, hta, htb, hl40] <;> rfl))))
          all_goals (show _ = _; first | rfl | (simp_all; done))
      ·
        have htb' : (decide (0 ≤ tb) && decide (tb ≤ 1073741823)) = false := by simpa using htb
        refine OKat.of_body (rs := [12]) Tryd.func10 rfl (by decide +kernel) rfl (by simp [Tryd.ntmps10]) ?_
        simp only [Tryd.ntmps10]
        repeat' first
          | apply AW.seq | apply AW.region | apply AW.ret | apply AW.block | apply AW.skip | apply AW.exit | apply AW.scope | apply AW.label | apply AWL.nil
          | ((first | (apply W.step cx_ok; decide) | (apply W.gS; rfl; decide) | apply AW.cond); (simp (disch := omega) only [push_cast, simprocAttr, hr, hta, htb'] <;> rfl); all_goals try ((with_reducible intro hI); try first | (cases hI; done) | (simp only [INTS] at hI; try first | (exfalso; omega) | (have hT : True := hI; clear hT hI))))
          | ((apply W.callv cx_ok; decide); (iterate 2 (simp (disch := omega) only [push_cast, simprocAttr, hr, hta, htb'] <;> rfl)); (with_reducible first | exact right_ok _ hn | exact sanity_ok | exact Time_ok _); try first | rfl | (simp (disch := omega) only [push_cast, simprocAttr, hr, hta, htb'] <;> rfl))
          | ((first | apply W.ret1 | apply W.end1); (iterate 2 (try (simp (disch := omega) only [push_cast, simprocAttr, hr, hta, htb'] <;> rfl))))
        all_goals (show _ = _; first | rfl | (simp_all; done))
    ·
      have hta' : (decide (0 ≤ ta) && decide (ta ≤ 1073741823)) = false := by simpa using hta
      refine OKat.of_body (rs := [12]) Tryd.func10 rfl (by decide +kernel) rfl (by simp [Tryd.ntmps10]) ?_
      simp only [Tryd.ntmps10]
      repeat' first
        | apply AW.seq | apply AW.region | apply AW.ret | apply AW.block | apply AW.skip | apply AW.exit | apply AW.scope | apply AW.label | apply AWL.nil
        | ((first | (apply W.step cx_ok; decide) | (apply W.gS; rfl; decide) | apply AW.cond); (simp (disch := omega) only [push_cast, simprocAttr, hr, hta'] <;> rfl); all_goals try ((with_reducible intro hI); try first | (cases hI; done) | (simp only [INTS] at hI; try first | (exfalso; omega) | (have hT : True := hI; clear hT hI))))
        | ((apply W.callv cx_ok; decide); (iterate 2 (simp (disch := omega) only [push_cast, simprocAttr, hr, hta'] <;> rfl)); (with_reducible first | exact right_ok _ hn | exact sanity_ok | exact Time_ok _); try first | rfl | (simp (disch := omega) only [push_cast, simprocAttr, hr, hta'] <;> rfl))
        | ((first | apply W.ret1 | apply W.end1); (iterate 2 (try (simp (disch := omega) only [push_cast, simprocAttr, hr, hta'] <;> rfl))))
      all_goals (show _ = _; first | rfl | (simp_all; done))
  ·
    have hr' : (few h && decide ((Check h).1 = 0)) = false := by simpa using hr
    refine OKat.of_body (rs := [12]) Tryd.func10 rfl (by decide +kernel) rfl (by simp [Tryd.ntmps10]) ?_
    simp only [Tryd.ntmps10]
    repeat' first
      | apply AW.seq | apply AW.region | apply AW.ret | apply AW.block | apply AW.skip | apply AW.exit | apply AW.scope | apply AW.label | apply AWL.nil
      | ((first | (apply W.step cx_ok; decide) | (apply W.gS; rfl; decide) | apply AW.cond); (simp (disch := omega) only [push_cast, simprocAttr, hr'] <;> rfl); all_goals try ((with_reducible intro hI); try first | (cases hI; done) | (simp only [INTS] at hI; try first | (exfalso; omega) | (have hT : True := hI; clear hT hI))))
      | ((apply W.callv cx_ok; decide); (iterate 2 (simp (disch := omega) only [push_cast, simprocAttr, hr'] <;> rfl)); (with_reducible first | exact right_ok _ hn | exact sanity_ok | exact Time_ok _); try first | rfl | (simp (disch := omega) only [push_cast, simprocAttr, hr'] <;> rfl))
      | ((first | apply W.ret1 | apply W.end1); (iterate 2 (try (simp (disch := omega) only [push_cast, simprocAttr, hr'] <;> rfl))))
    all_goals (show _ = _; first | rfl | (simp_all; done))

end Go.Proofs.Hs
