/-
  Contracts of functions, proved by going through their code. No conditions.
-/
import Derived.Test.YtofdhddbfjfkcaaDoorHf
import Derived.Test.YtofdhddbfjfkcaaDoorVf
import Derived.Test.YtofdhddbfjfkcaaDoorVi
import Derived.Test.YtofdhddbfjfkcaaDoorVk
set_option maxHeartbeats 8000000
set_option linter.unusedSimpArgs false
set_option linter.unusedVariables false
set_option maxRecDepth 10000
namespace Go.Proofs.Hs
open Go Go.Pg Go.Proofs

theorem gateAsked_time {h : House} {w : Int} {back : Bool} {t u : Int} (ht : timeOK t) (hu : timeOK u) : gateAsked h w back t = gateAsked h w back u := by
  unfold gateAsked; simp only [ht, hu]
theorem pair_eta {p : Int × Int} {e : Int} (h : p.2 = e) : p = (p.1, e) := by rw [← h]
theorem enterH_err (h : House) (w : Int) (back : Bool) (t : Int) : (enterH h w back t).2 = (gateAsked h w back t).2 := by
  unfold enterH; split
  · rfl
  · rename_i he; exact (by simpa using he : (gateAsked h w back t).2 = 0).symm
theorem departH_err (h : House) (w : Int) (back : Bool) (t : Int) : (departH h w back t).2 = (gateAsked h w back t).2 := by
  unfold departH; split
  · rfl
  · rename_i he; exact (by simpa using he : (gateAsked h w back t).2 = 0).symm
theorem enterH_mono {h : House} {w : Int} {back : Bool} {t u : Int} (ht : timeOK t) (hu : timeOK u) (htu : t ≤ u) : (enterH h w back t).1 ≤ (enterH h w back u).1 := by
  unfold enterH
  rw [gateAsked_time ht hu]
  split
  · exact Int.le_refl _
  · rename_i he
    obtain ⟨hv, hg, _⟩ := gateAsked_ok0 (by simpa using he)
    exact enter_mono hv hg ht.1 htu (by have := hu.2; omega)
theorem departH_mono {h : House} {w : Int} {back : Bool} {t u : Int} (ht : timeOK t) (hu : timeOK u) (htu : t ≤ u) : (departH h w back t).1 ≤ (departH h w back u).1 := by
  unfold departH
  rw [gateAsked_time ht hu]
  split
  · exact Int.le_refl _
  · rename_i he
    obtain ⟨hv, hg, _⟩ := gateAsked_ok0 (by simpa using he)
    exact depart_mono hv hg (by have := ht.1; omega) htu
theorem law16_ok (h : House) (a b way : Int) (back : Bool) (t u : Int) (rooms : List Int) (hn : ∀ r ∈ h.rooms, r.name.size ≤ 9223372036854775807) : OKv cx 16 [.agg (eHouse h), ai a, ai b, ai way, ab back, ai t, ai u, lInt rooms] (ab true) := by
  by_cases hr : (few h && decide ((Check h).1 = 0)) = true
  ·
    by_cases hta : (decide (0 ≤ t) && decide (t ≤ 1073741823)) = true
    ·
      by_cases htb : (decide (0 ≤ u) && decide (u ≤ 1073741823)) = true
      ·
        by_cases hl10 : rooms.length ≤ 10
        ·
          obtain ⟨hf, hc⟩ : few h = true ∧ (Check h).1 = 0 := by simpa using hr
          have hfit := few_fit hf hn
          have hv := Check_V hc
          have hrl := hv.rooms
          have htab : 0 ≤ t ∧ t ≤ 1073741823 := by simpa using hta
          have htbb : 0 ≤ u ∧ u ≤ 1073741823 := by simpa using htb
          obtain ⟨t1, ht1⟩ : ∃ x, min t u = x := ⟨_, rfl⟩
          obtain ⟨u1, hu1⟩ : ∃ x, max t u = x := ⟨_, rfl⟩
          have hle : t1 ≤ u1 := by omega
          have ht1b : 0 ≤ t1 ∧ t1 ≤ 1073741823 := by omega
          have hu1b : 0 ≤ u1 ∧ u1 ≤ 1073741823 := by omega
          obtain ⟨F, hF⟩ : ∃ x, someN a h.rooms.length = x := ⟨_, rfl⟩
          have hFb := someN_lt a (k := (h.rooms.length : Int)) (by omega)
          rw [hF] at hFb
          obtain ⟨T, hT⟩ : ∃ x, someN b h.rooms.length = x := ⟨_, rfl⟩
          have hTb := someN_lt b (k := (h.rooms.length : Int)) (by omega)
          rw [hT] at hTb
          have q1r : roomE h F t1 = 0 := by unfold roomE; rw [if_neg (by simp [hc]), if_neg (by omega)]
          obtain ⟨X, hX⟩ : ∃ x, (arrH h F.toNat t1).1 = x := ⟨_, rfl⟩
          have hXl : X.length = h.rooms.length := by rw [← hX]; exact (arrH_len h _ _).1
          have q1 : earliestH h F t1 = (X, 0) := by rw [← hX]; exact if_neg (by simp [q1r])
          have q2r : roomE h F u1 = 0 := by unfold roomE; rw [if_neg (by simp [hc]), if_neg (by omega)]
          obtain ⟨Y, hY⟩ : ∃ x, (arrH h F.toNat u1).1 = x := ⟨_, rfl⟩
          have hYl : Y.length = h.rooms.length := by rw [← hY]; exact (arrH_len h _ _).1
          have q2 : earliestH h F u1 = (Y, 0) := by rw [← hY]; exact if_neg (by simp [q2r])
          have q3r : roomE h T t1 = 0 := by unfold roomE; rw [if_neg (by simp [hc]), if_neg (by omega)]
          obtain ⟨V, hV⟩ : ∃ x, late h T.toNat t1 = x := ⟨_, rfl⟩
          have hVl : V.length = h.rooms.length := by rw [← hV]; unfold late; rw [lateF_len]; simp
          have q3 : latestH h T t1 = (V, 0) := by rw [← hV]; exact if_neg (by simp [q3r])
          have q4r : roomE h T u1 = 0 := by unfold roomE; rw [if_neg (by simp [hc]), if_neg (by omega)]
          obtain ⟨Wd, hWd⟩ : ∃ x, late h T.toNat u1 = x := ⟨_, rfl⟩
          have hWdl : Wd.length = h.rooms.length := by rw [← hWd]; unfold late; rw [lateF_len]; simp
          have q4 : latestH h T u1 = (Wd, 0) := by rw [← hWd]; exact if_neg (by simp [q4r])
          have hXY : ∀ k, k < h.rooms.length → X.getD k 0 ≤ Y.getD k 0 ∧ t1 ≤ X.getD k 0 := fun k hk => by
            have h1 := arr_mono hv (a := F.toNat) (by omega) ht1b.1 hle (by omega) k
            have h2 := (arr_self hv (a := F.toNat) (by omega) (t := t1) (by omega)).2 k
            rw [← arrH_eq hv hFb ht1b, hX, getD_lab (by omega)] at h2
            rw [← arrH_eq hv hFb ht1b, ← arrH_eq hv hFb hu1b, hX, hY, getD_lab (by omega), getD_lab (by omega)] at h1
            exact ⟨h1, h2⟩
          have hVW : ∀ k, k < h.rooms.length → V.getD k 0 ≤ Wd.getD k 0 ∧ V.getD k 0 ≤ t1 := fun k hk => by
            have h1 := dep_mono hv (a := T.toNat) (by omega) (t := t1) (by omega) hle (by omega) k
            have h2 := (dep_self hv (a := T.toNat) (by omega) (t := t1) (by omega)).2 k
            rw [← late_is hv (by omega) ht1b, hV, getD_lab (by omega)] at h2
            rw [← late_is hv (by omega) ht1b, ← late_is hv (by omega) hu1b, hV, hWd, getD_lab (by omega), getD_lab (by omega)] at h1
            exact ⟨h1, h2⟩
          obtain ⟨e1, he1⟩ : ∃ x, (tourH h rooms t1).2 = x := ⟨_, rfl⟩
          obtain ⟨r1, hr1⟩ : ∃ x, (tourH h rooms t1).1 = x := ⟨_, rfl⟩
          obtain ⟨r2, hr2⟩ : ∃ x, (tourH h rooms u1).1 = x := ⟨_, rfl⟩
          obtain ⟨hm1, hm2⟩ := tourH_mono (h := h) (rooms := rooms) ht1b hu1b hle
          have q5 : tourH h rooms t1 = (r1, e1) := by rw [← hr1, ← he1]
          have q6 : tourH h rooms u1 = (r2, e1) := by rw [← hr2, ← he1, hm1]
          rw [hr1, hr2] at hm2
          have hwn := hv.nw
          refine OKat.of_body (rs := [16]) Tryd.func16 rfl (by decide +kernel) rfl (by simp [Tryd.ntmps16]) ?_
          simp only [Tryd.ntmps16]
          repeat' first
            | apply AW.seq | apply AW.region | apply AW.ret | apply AW.block | apply AW.skip | apply AW.exit | apply AW.scope | apply AW.label | apply AWL.nil | apply D.nil
            | refine W.draw cx_mixed (by decide +kernel) ?_
            | ((first | (apply W.step cx_ok; decide) | (apply D.step cx_ok; decide; decide) | (apply W.gS; rfl; decide) | (apply D.gS; rfl; decide; decide) | apply AW.cond); (simp (disch := omega) only [push_cast, simprocAttr, hr, hta, htb, hl10, ht1, hu1, hF, hT, q1, q2, q3, q4, hXl, hYl, hVl, hWdl] <;> rfl); all_goals try ((with_reducible intro hI); try first | (cases hI; done) | (simp only [INTS, not_true_eq_false] at hI; try first | (exfalso; omega) | (have hT : True := hI; clear hT hI))))
            | ((first | (apply W.callv cx_ok; decide) | (apply D.callv cx_ok; decide; decide)); (iterate 2 (simp (disch := omega) only [push_cast, simprocAttr, hr, hta, htb, hl10, ht1, hu1, hF, hT, q1, q2, q3, q4, hXl, hYl, hVl, hWdl] <;> rfl)); (with_reducible first | exact right_ok _ hn | exact sanity_ok | exact Time_ok _ | exact some_ok _ _ (by omega) | exact Earliest_ok _ _ _ hfit | exact Latest_ok _ _ _ hfit | exact EnterG_ok _ _ _ _ hfit | exact DepartG_ok _ _ _ _ hfit | exact Tour_ok _ _ _ hfit (by omega)); try first | rfl | (simp (disch := omega) only [push_cast, simprocAttr, hr, hta, htb, hl10, ht1, hu1, hF, hT, q1, q2, q3, q4, hXl, hYl, hVl, hWdl] <;> rfl))
            | ((first | apply W.ret1 | apply W.end1); (iterate 2 (try (simp (disch := omega) only [push_cast, simprocAttr, hr, hta, htb, hl10, ht1, hu1, hF, hT, q1, q2, q3, q4, hXl, hYl, hVl, hWdl] <;> rfl))))
          refine AW.loop (fun n s => ∃ (k : Nat), n = h.rooms.length - k ∧ (k ≤ h.rooms.length) ∧ 1 ≤ s.nx ∧ s.tm 3 = ai way ∧ s.tm 4 = ab back ∧ s.tm 5 = ai t1 ∧ s.tm 6 = ai u1 ∧ s.tm 7 = lInt rooms ∧ s.tm 8 = .ptr 0 0 0 1 ∧ s.tm 19 = lInt X ∧ s.tm 21 = lInt Y ∧ s.tm 23 = lInt V ∧ s.tm 25 = lInt Wd ∧ s.tm 27 = ai k ∧ Pg.rowAt s.H (0) = some ({ k := 3, es := [eHouse h], ty := 26 })) (h.rooms.length) ⟨0, rfl, (by omega), ?_, ?_, ?_, ?_, ?_, ?_, ?_, ?_, ?_, ?_, ?_, ?_, ?_⟩ ?_
          iterate 13 (first | (simp (disch := omega) only [push_cast, simprocAttr, hr, hta, htb, hl10, ht1, hu1, hF, hT, q1, q2, q3, q4, hXl, hYl, hVl, hWdl] <;> first | rfl | omega) | omega)
          rintro n s ⟨k, hn, hp0, hnl, hS⟩
          have hZ : (0 : Nat) ≠ s.nx ∧ s.nx ≠ (0 : Nat) := by omega
          by_cases hk : k < h.rooms.length
          ·
            have k1 : (k : Int) < (h.rooms.length : Int) := by omega
            have k2 : ¬ (Y.getD k 0 < X.getD k 0) := by have := (hXY k hk).1; omega
            have k3 : ¬ (Wd.getD k 0 < V.getD k 0) := by have := (hVW k hk).1; omega
            have k4 : ¬ (X.getD k 0 < t1) := by have := (hXY k hk).2; omega
            have k5 : ¬ (t1 < V.getD k 0) := by have := (hVW k hk).2; omega
            have k6 : k < X.length ∧ k < Y.length ∧ k < V.length ∧ k < Wd.length := by omega
            repeat' first
              | apply AW.seq | apply AW.region | apply AW.ret | apply AW.block | apply AW.skip | apply AW.exit | apply AW.scope | apply AW.label | apply AWL.nil | apply D.nil
              | refine W.draw cx_mixed (by decide +kernel) ?_
              | ((first | (apply W.step cx_ok; decide) | (apply D.step cx_ok; decide; decide) | (apply W.gS; rfl; decide) | (apply D.gS; rfl; decide; decide) | apply AW.cond); (simp (disch := omega) only [push_cast, simprocAttr, hS, hZ, hk, k1, k2, k3, k4, k5, k6, hXl, hYl, hVl, hWdl] <;> rfl); all_goals try ((with_reducible intro hI); try first | (cases hI; done) | (simp only [INTS, not_true_eq_false] at hI; try first | (exfalso; omega) | (have hT : True := hI; clear hT hI))))
              | ((first | (apply W.callv cx_ok; decide) | (apply D.callv cx_ok; decide; decide)); (iterate 2 (simp (disch := omega) only [push_cast, simprocAttr, hS, hZ, hk, k1, k2, k3, k4, k5, k6, hXl, hYl, hVl, hWdl] <;> rfl)); (with_reducible first | exact right_ok _ hn | exact sanity_ok | exact Time_ok _ | exact some_ok _ _ (by omega) | exact Earliest_ok _ _ _ hfit | exact Latest_ok _ _ _ hfit | exact EnterG_ok _ _ _ _ hfit | exact DepartG_ok _ _ _ _ hfit | exact Tour_ok _ _ _ hfit (by omega)); try first | rfl | (simp (disch := omega) only [push_cast, simprocAttr, hS, hZ, hk, k1, k2, k3, k4, k5, k6, hXl, hYl, hVl, hWdl] <;> rfl))
              | ((first | apply W.ret1 | apply W.end1); (iterate 2 (try (simp (disch := omega) only [push_cast, simprocAttr, hS, hZ, hk, k1, k2, k3, k4, k5, k6, hXl, hYl, hVl, hWdl] <;> rfl))))
            all_goals (refine ⟨h.rooms.length - (k + 1), ?_, k + 1, rfl, (by omega), ?_, ?_, ?_, ?_, ?_, ?_, ?_, ?_, ?_, ?_, ?_, ?_, ?_⟩; ((omega)); all_goals first | (simp (disch := omega) only [push_cast, simprocAttr, hS, hZ, hk] <;> first | rfl | omega) | omega)
          ·
            have k1 : ¬ ((k : Int) < (h.rooms.length : Int)) := by omega
            by_cases hw0 : 0 < (h.ways.length : Int)
            ·
              obtain ⟨N, hN⟩ : ∃ x, someN way h.ways.length = x := ⟨_, rfl⟩
              have hG := gateAsked_time (h := h) (w := N) (back := back) (t := t1) (u := u1) ht1b hu1b
              obtain ⟨c, hc1⟩ : ∃ x, (enterH h N back t1).1 = x := ⟨_, rfl⟩
              obtain ⟨d, hd1⟩ : ∃ x, (enterH h N back u1).1 = x := ⟨_, rfl⟩
              obtain ⟨o, ho1⟩ : ∃ x, (departH h N back t1).1 = x := ⟨_, rfl⟩
              obtain ⟨q, hq1⟩ : ∃ x, (departH h N back u1).1 = x := ⟨_, rfl⟩
              obtain ⟨e, hee⟩ : ∃ x, (gateAsked h N back t1).2 = x := ⟨_, rfl⟩
              have z1 : enterH h N back t1 = (c, e) := by rw [← hc1, ← hee]; exact (pair_eta (enterH_err h N back t1))
              have z2 : enterH h N back u1 = (d, e) := by rw [← hd1, ← hee, hG]; exact (pair_eta (enterH_err h N back u1))
              have z3 : departH h N back t1 = (o, e) := by rw [← ho1, ← hee]; exact (pair_eta (departH_err h N back t1))
              have z4 : departH h N back u1 = (q, e) := by rw [← hq1, ← hee, hG]; exact (pair_eta (departH_err h N back u1))
              have z5 : ¬ (d < c) := by have := enterH_mono (h := h) (w := N) (back := back) ht1b hu1b hle; omega
              have z6 : ¬ (q < o) := by have := departH_mono (h := h) (w := N) (back := back) ht1b hu1b hle; omega
              repeat' first
                | apply AW.seq | apply AW.region | apply AW.ret | apply AW.block | apply AW.skip | apply AW.exit | apply AW.scope | apply AW.label | apply AWL.nil | apply D.nil
                | refine W.draw cx_mixed (by decide +kernel) ?_
                | ((first | (apply W.step cx_ok; decide) | (apply D.step cx_ok; decide; decide) | (apply W.gS; rfl; decide) | (apply D.gS; rfl; decide; decide) | apply AW.cond); (simp (disch := omega) only [push_cast, simprocAttr, hS, hZ, k1, hXl, hYl, hVl, hWdl, hw0, hN, z1, z2, z3, z4, z5, z6, q5, q6, hm2] <;> rfl); all_goals try ((with_reducible intro hI); try first | (cases hI; done) | (simp only [INTS, not_true_eq_false] at hI; try first | (exfalso; omega) | (have hT : True := hI; clear hT hI))))
                | ((first | (apply W.callv cx_ok; decide) | (apply D.callv cx_ok; decide; decide)); (iterate 2 (simp (disch := omega) only [push_cast, simprocAttr, hS, hZ, k1, hXl, hYl, hVl, hWdl, hw0, hN, z1, z2, z3, z4, z5, z6, q5, q6, hm2] <;> rfl)); (with_reducible first | exact right_ok _ hn | exact sanity_ok | exact Time_ok _ | exact some_ok _ _ (by omega) | exact Earliest_ok _ _ _ hfit | exact Latest_ok _ _ _ hfit | exact EnterG_ok _ _ _ _ hfit | exact DepartG_ok _ _ _ _ hfit | exact Tour_ok _ _ _ hfit (by omega)); try first | rfl | (simp (disch := omega) only [push_cast, simprocAttr, hS, hZ, k1, hXl, hYl, hVl, hWdl, hw0, hN, z1, z2, z3, z4, z5, z6, q5, q6, hm2] <;> rfl))
                | ((first | apply W.ret1 | apply W.end1); (iterate 2 (try (simp (disch := omega) only [push_cast, simprocAttr, hS, hZ, k1, hXl, hYl, hVl, hWdl, hw0, hN, z1, z2, z3, z4, z5, z6, q5, q6, hm2] <;> rfl))))
              all_goals (show _ = _; first | rfl | (simp_all; done))
            ·
              repeat' first
                | apply AW.seq | apply AW.region | apply AW.ret | apply AW.block | apply AW.skip | apply AW.exit | apply AW.scope | apply AW.label | apply AWL.nil | apply D.nil
                | refine W.draw cx_mixed (by decide +kernel) ?_
                | ((first | (apply W.step cx_ok; decide) | (apply D.step cx_ok; decide; decide) | (apply W.gS; rfl; decide) | (apply D.gS; rfl; decide; decide) | apply AW.cond); (simp (disch := omega) only [push_cast, simprocAttr, hS, hZ, k1, hXl, hYl, hVl, hWdl, hw0, q5, q6, hm2] <;> rfl); all_goals try ((with_reducible intro hI); try first | (cases hI; done) | (simp only [INTS, not_true_eq_false] at hI; try first | (exfalso; omega) | (have hT : True := hI; clear hT hI))))
                | ((first | (apply W.callv cx_ok; decide) | (apply D.callv cx_ok; decide; decide)); (iterate 2 (simp (disch := omega) only [push_cast, simprocAttr, hS, hZ, k1, hXl, hYl, hVl, hWdl, hw0, q5, q6, hm2] <;> rfl)); (with_reducible first | exact right_ok _ hn | exact sanity_ok | exact Time_ok _ | exact some_ok _ _ (by omega) | exact Earliest_ok _ _ _ hfit | exact Latest_ok _ _ _ hfit | exact EnterG_ok _ _ _ _ hfit | exact DepartG_ok _ _ _ _ hfit | exact Tour_ok _ _ _ hfit (by omega)); try first | rfl | (simp (disch := omega) only [push_cast, simprocAttr, hS, hZ, k1, hXl, hYl, hVl, hWdl, hw0, q5, q6, hm2] <;> rfl))
                | ((first | apply W.ret1 | apply W.end1); (iterate 2 (try (simp (disch := omega) only [push_cast, simprocAttr, hS, hZ, k1, hXl, hYl, hVl, hWdl, hw0, q5, q6, hm2] <;> rfl))))
              all_goals (show _ = _; first | rfl | (simp_all; done))
        ·
          refine OKat.of_body (rs := [16]) Tryd.func16 rfl (by decide +kernel) rfl (by simp [Tryd.ntmps16]) ?_
          simp only [Tryd.ntmps16]
          repeat' first
            | apply AW.seq | apply AW.region | apply AW.ret | apply AW.block | apply AW.skip | apply AW.exit | apply AW.scope | apply AW.label | apply AWL.nil | apply D.nil
            | refine W.draw cx_mixed (by decide +kernel) ?_
            | ((first | (apply W.step cx_ok; decide) | (apply D.step cx_ok; decide; decide) | (apply W.gS; rfl; decide) | (apply D.gS; rfl; decide; decide) | apply AW.cond); (simp (disch := omega) only [push_cast, simprocAttr, hr, hta, htb, hl10] <;> rfl); all_goals try ((with_reducible intro hI); try first | (cases hI; done) | (simp only [INTS, not_true_eq_false] at hI; try first | (exfalso; omega) | (have hT : True := hI; clear hT hI))))
            | ((first | (apply W.callv cx_ok; decide) | (apply D.callv cx_ok; decide; decide)); (iterate 2 (simp (disch := omega) only [push_cast, simprocAttr, hr, hta, htb, hl10] <;> rfl)); (with_reducible first | exact right_ok _ hn | exact sanity_ok | exact Time_ok _); try first | rfl | (simp (disch := omega) only [push_cast, simprocAttr, hr, hta, htb, hl10] <;> rfl))
            | ((first | apply W.ret1 | apply W.end1); (iterate 2 (try (simp (disch := omega) only [push_cast, simprocAttr, hr, hta, htb, hl10] <;> rfl))))
          all_goals (show _ = _; first | rfl | (simp_all; done))
      ·
        have htb' : (decide (0 ≤ u) && decide (u ≤ 1073741823)) = false := by simpa using htb
        refine OKat.of_body (rs := [16]) Tryd.func16 rfl (by decide +kernel) rfl (by simp [Tryd.ntmps16]) ?_
        simp only [Tryd.ntmps16]
        repeat' first
          | apply AW.seq | apply AW.region | apply AW.ret | apply AW.block | apply AW.skip | apply AW.exit | apply AW.scope | apply AW.label | apply AWL.nil | apply D.nil
          | refine W.draw cx_mixed (by decide +kernel) ?_
          | ((first | (apply W.step cx_ok; decide) | (apply D.step cx_ok; decide; decide) | (apply W.gS; rfl; decide) | (apply D.gS; rfl; decide; decide) | apply AW.cond); (simp (disch := omega) only [push_cast, simprocAttr, hr, hta, htb'] <;> rfl); all_goals try ((with_reducible intro hI); try first | (cases hI; done) | (simp only [INTS, not_true_eq_false] at hI; try first | (exfalso; omega) | (have hT : True := hI; clear hT hI))))
          | ((first | (apply W.callv cx_ok; decide) | (apply D.callv cx_ok; decide; decide)); (iterate 2 (simp (disch := omega) only [push_cast, simprocAttr, hr, hta, htb'] <;> rfl)); (with_reducible first | exact right_ok _ hn | exact sanity_ok | exact Time_ok _); try first | rfl | (simp (disch := omega) only [push_cast, simprocAttr, hr, hta, htb'] <;> rfl))
          | ((first | apply W.ret1 | apply W.end1); (iterate 2 (try (simp (disch := omega) only [push_cast, simprocAttr, hr, hta, htb'] <;> rfl))))
        all_goals (show _ = _; first | rfl | (simp_all; done))
    ·
      have hta' : (decide (0 ≤ t) && decide (t ≤ 1073741823)) = false := by simpa using hta
      refine OKat.of_body (rs := [16]) Tryd.func16 rfl (by decide +kernel) rfl (by simp [Tryd.ntmps16]) ?_
      simp only [Tryd.ntmps16]
      repeat' first
        | apply AW.seq | apply AW.region | apply AW.ret | apply AW.block | apply AW.skip | apply AW.exit | apply AW.scope | apply AW.label | apply AWL.nil | apply D.nil
        | refine W.draw cx_mixed (by decide +kernel) ?_
        | ((first | (apply W.step cx_ok; decide) | (apply D.step cx_ok; decide; decide) | (apply W.gS; rfl; decide) | (apply D.gS; rfl; decide; decide) | apply AW.cond); (simp (disch := omega) only [push_cast, simprocAttr, hr, hta'] <;> rfl); all_goals try ((with_reducible intro hI); try first | (cases hI; done) | (simp only [INTS, not_true_eq_false] at hI; try first | (exfalso; omega) | (have hT : True := hI; clear hT hI))))
        | ((first | (apply W.callv cx_ok; decide) | (apply D.callv cx_ok; decide; decide)); (iterate 2 (simp (disch := omega) only [push_cast, simprocAttr, hr, hta'] <;> rfl)); (with_reducible first | exact right_ok _ hn | exact sanity_ok | exact Time_ok _); try first | rfl | (simp (disch := omega) only [push_cast, simprocAttr, hr, hta'] <;> rfl))
        | ((first | apply W.ret1 | apply W.end1); (iterate 2 (try (simp (disch := omega) only [push_cast, simprocAttr, hr, hta'] <;> rfl))))
      all_goals (show _ = _; first | rfl | (simp_all; done))
  ·
    have hr' : (few h && decide ((Check h).1 = 0)) = false := by simpa using hr
    refine OKat.of_body (rs := [16]) Tryd.func16 rfl (by decide +kernel) rfl (by simp [Tryd.ntmps16]) ?_
    simp only [Tryd.ntmps16]
    repeat' first
      | apply AW.seq | apply AW.region | apply AW.ret | apply AW.block | apply AW.skip | apply AW.exit | apply AW.scope | apply AW.label | apply AWL.nil | apply D.nil
      | refine W.draw cx_mixed (by decide +kernel) ?_
      | ((first | (apply W.step cx_ok; decide) | (apply D.step cx_ok; decide; decide) | (apply W.gS; rfl; decide) | (apply D.gS; rfl; decide; decide) | apply AW.cond); (simp (disch := omega) only [push_cast, simprocAttr, hr'] <;> rfl); all_goals try ((with_reducible intro hI); try first | (cases hI; done) | (simp only [INTS, not_true_eq_false] at hI; try first | (exfalso; omega) | (have hT : True := hI; clear hT hI))))
      | ((first | (apply W.callv cx_ok; decide) | (apply D.callv cx_ok; decide; decide)); (iterate 2 (simp (disch := omega) only [push_cast, simprocAttr, hr'] <;> rfl)); (with_reducible first | exact right_ok _ hn | exact sanity_ok | exact Time_ok _); try first | rfl | (simp (disch := omega) only [push_cast, simprocAttr, hr'] <;> rfl))
      | ((first | apply W.ret1 | apply W.end1); (iterate 2 (try (simp (disch := omega) only [push_cast, simprocAttr, hr'] <;> rfl))))
    all_goals (show _ = _; first | rfl | (simp_all; done))

end Go.Proofs.Hs
