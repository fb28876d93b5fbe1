/-
  Contracts of functions, proved by going through their code. No conditions.
-/
import Derived.Test.YtofdhddbfjfkcaaDoorHf
import Derived.Test.YtofdhddbfjfkcaaDoorVa
import Derived.Test.YtofdhddbfjfkcaaDoorVi
import Derived.Test.YtofdhddbfjfkcaaDoorVg
set_option maxHeartbeats 8000000
set_option linter.unusedSimpArgs false
set_option linter.unusedVariables false
set_option maxRecDepth 10000
namespace Go.Proofs.Hs
open Go Go.Pg Go.Proofs

theorem shut_zero {h : House} {k : Int} {sp : Span} (he : ¬ (shutDoor h k sp).2 = 0) : (shutDoor h k sp).1 = House.zero := by
  unfold shutDoor at he ⊢
  split
  · rfl
  · split
    · rfl
    · split
      · rfl
      · exact absurd (by simp_all) he
theorem law9_ok (h : House) (door : Int) (sp : Span) (a ta b tb u : Int) (l : List Int) (hn : ∀ r ∈ h.rooms, r.name.size ≤ 9223372036854775807) : OKv cx 9 [.agg (eHouse h), ai door, .agg (eSpan sp), ai a, ai ta, ai b, ai tb, ai u, lInt l] (ab true) := by
  by_cases hr : (few h && decide ((Check h).1 = 0)) = true
  ·
    by_cases hds : ¬ (h.doors.length : Int) = 0
    ·
      by_cases hta : (decide (0 ≤ ta) && decide (ta ≤ 1073741823)) = true
      ·
        by_cases htb : (decide (0 ≤ tb) && decide (tb ≤ 1073741823)) = true
        ·
          by_cases htu : (decide (0 ≤ u) && decide (u ≤ 1073741823)) = true
          ·
            by_cases hl40 : l.length ≤ 40
            ·
              obtain ⟨hf, hc⟩ : few h = true ∧ (Check h).1 = 0 := by simpa using hr
              have hfit := few_fit hf hn
              have hv := Check_V hc
              have hrl := hv.rooms
              have htab : 0 ≤ ta ∧ ta ≤ 1073741823 := by simpa using hta
              have htbb : 0 ≤ tb ∧ tb ≤ 1073741823 := by simpa using htb
              have htub : 0 ≤ u ∧ u ≤ 1073741823 := by simpa using htu
              obtain ⟨F, hF⟩ : ∃ x, someN a h.rooms.length = x := ⟨_, rfl⟩
              have hFb := someN_lt a (k := (h.rooms.length : Int)) (by omega)
              rw [hF] at hFb
              obtain ⟨T, hT⟩ : ∃ x, someN b h.rooms.length = x := ⟨_, rfl⟩
              have hTb := someN_lt b (k := (h.rooms.length : Int)) (by omega)
              rw [hT] at hTb
              have hdl : 1 ≤ (h.doors.length : Int) := by omega
              have hdm := hv.nd
              obtain ⟨Dr, hDr⟩ : ∃ x, someN door h.doors.length = x := ⟨_, rfl⟩
              have hDrb := someN_lt door (k := (h.doors.length : Int)) hdl
              rw [hDr] at hDrb
              by_cases he : (shutDoor h Dr sp).2 = 0
              ·
                obtain ⟨_, _, hsb, nc, hsh, hop⟩ := shut_is he
                obtain ⟨nh, hn1⟩ : ∃ x, (shutDoor h Dr sp).1 = x := ⟨_, rfl⟩
                rw [hn1] at nc hsh hop
                have hsd : shutDoor h Dr sp = (nh, 0) := by rw [← hn1, ← he]
                have nv := Check_V nc
                have nfit : nh.Fit := ⟨fun r hr => hn r (by rw [← hsh.rooms]; exact hr), fun d hd => ⟨by have := (nv.doors d hd).hours.1; omega, by have := (nv.doors d hd).shut.1; omega⟩, by have := nv.rooms; omega, by have := nv.nd; omega, by have := nv.nw; omega⟩
                have hnr : nh.rooms.length = h.rooms.length := by rw [hsh.rooms]
                have hnd := hsh.len
                have q1r : roomE h F ta = 0 := by unfold roomE; rw [if_neg (by simp [hc]), if_neg (by omega)]
                obtain ⟨X, hX⟩ : ∃ x, (arrH h F.toNat ta).1 = x := ⟨_, rfl⟩
                have hXl : X.length = h.rooms.length := by rw [← hX]; exact (arrH_len h _ _).1
                have q1 : earliestH h F ta = (X, 0) := by rw [← hX]; exact if_neg (by simp [q1r])
                have q2r : roomE nh F ta = 0 := by unfold roomE; rw [if_neg (by simp [nc]), if_neg (by omega)]
                obtain ⟨Y, hY⟩ : ∃ x, (arrH nh F.toNat ta).1 = x := ⟨_, rfl⟩
                have hYl : Y.length = h.rooms.length := by rw [← hY]; exact (arrH_len nh _ _).1.trans hnr
                have q2 : earliestH nh F ta = (Y, 0) := by rw [← hY]; exact if_neg (by simp [q2r])
                have q3r : roomE h T tb = 0 := by unfold roomE; rw [if_neg (by simp [hc]), if_neg (by omega)]
                obtain ⟨V, hV⟩ : ∃ x, late h T.toNat tb = x := ⟨_, rfl⟩
                have hVl : V.length = h.rooms.length := by rw [← hV]; unfold late; rw [lateF_len]; simp
                have q3 : latestH h T tb = (V, 0) := by rw [← hV]; exact if_neg (by simp [q3r])
                have q4r : roomE nh T tb = 0 := by unfold roomE; rw [if_neg (by simp [nc]), if_neg (by omega)]
                obtain ⟨Wd, hWd⟩ : ∃ x, late nh T.toNat tb = x := ⟨_, rfl⟩
                have hWdl : Wd.length = h.rooms.length := by rw [← hWd]; unfold late; rw [lateF_len]; simp [hnr]
                have q4 : latestH nh T tb = (Wd, 0) := by rw [← hWd]; exact if_neg (by simp [q4r])
                have q0 : askedE h [F, T] [ta, tb] = 0 := by rw [askedE_two, if_neg (by simp [q1r]), q3r]
                have q0n : askedE nh [F, T] [ta, tb] = 0 := by rw [askedE_two, if_neg (by simp [q2r]), q4r]
                have hXY : ∀ k, k < h.rooms.length → X.getD k 0 ≤ Y.getD k 0 := fun k hk => by
                  have := hsh.arr hv nv (a := F.toNat) (t := ta) (by omega) (by omega) k
                  rwa [← arrH_eq hv hFb htab, ← arrH_eq nv (by omega) htab, hX, hY, getD_lab (by omega), getD_lab (by omega)] at this
                have hVW : ∀ k, k < h.rooms.length → Wd.getD k 0 ≤ V.getD k 0 := fun k hk => by
                  have := hsh.dep hv nv (a := T.toNat) (t := tb) (by omega) (by omega) k
                  rwa [← late_is hv (by omega) htbb, ← late_is nv (by omega) htbb, hV, hWd, getD_lab (by omega), getD_lab (by omega)] at this
                obtain ⟨A, hA⟩ : ∃ x, checkWallH h F ta T tb l = x := ⟨_, rfl⟩
                obtain ⟨B, hB⟩ : ∃ x, checkWallH nh F ta T tb l = x := ⟨_, rfl⟩
                have hcw : ∀ m : House, askedE m [F, T] [ta, tb] = 0 → ∀ l, checkWallH m F ta T tb l = if isWall m F ta T tb l = true then 0 else 8 := fun m hm l => by unfold checkWallH; rw [if_neg (by simp [hm])]
                have hAB : A = 0 → B = 0 := by
                  rw [← hA, ← hB, hcw h q0, hcw nh q0n]
                  by_cases hw : isWall h F ta T tb l = true
                  · intro _; exact if_pos (hsh.wall hv nv hFb hTb hw)
                  · rw [if_neg hw]; intro hq; exact absurd hq (by decide)
                obtain ⟨Wl, hWL⟩ : ∃ x, (wallH h F ta T tb).1 = x := ⟨_, rfl⟩
                obtain ⟨O, hO⟩ : ∃ x, (wallH h F ta T tb).2 = x := ⟨_, rfl⟩
                have q5 : wallH h F ta T tb = (Wl, O) := by rw [← hWL, ← hO]
                obtain ⟨Cc, hCc⟩ : ∃ x, checkWallH nh F ta T tb Wl = x := ⟨_, rfl⟩
                have hWO : (Wl.length ≤ 1000) ∧ (O = 0 → Cc = 0) := by
                  rw [← hCc, ← hWL, ← hO, hcw nh q0n]; unfold wallH; rw [if_neg (by simp [q0])]
                  by_cases hle : (arrH h F.toNat ta).1.getD T.toNat 0 ≤ tb
                  · rw [if_pos hle]; exact ⟨by simp, fun hh => absurd hh (by decide)⟩
                  · rw [if_neg hle]; exact ⟨by rw [(arrH_len h _ _).1]; omega, fun _ => by rw [if_pos (hsh.wall hv nv hFb hTb (wall_true hv hFb hTb htab hle))]⟩
                obtain ⟨hWll, hOC⟩ := hWO
                have hdR : ∀ m : House, (Check m).1 = 0 → m.V → m.doors.length = h.doors.length → isOpenH m Dr u = (openR (m.door Dr) u, 0) := fun m mc mv ml => by
                  unfold isOpenH
                  have h1 : doorE m Dr [u] = 0 := by rw [doorE_one]; unfold doorRE; rw [if_neg (by unfold timeOK; omega)]; exact mc
                  rw [if_neg (by simp [h1])]
                  have h2 := next_open (mv.door hDrb.1 (by omega)) htub.1 htub.2
                  have h3 : decide (next (m.door Dr) u = u) = openR (m.door Dr) u := by rw [Bool.eq_iff_iff, decide_eq_true_eq]; exact h2
                  rw [h3]
                obtain ⟨w, hw⟩ : ∃ x, openR (h.door Dr) u = x := ⟨_, rfl⟩
                obtain ⟨i, hi⟩ : ∃ x, (decide (sp.lo ≤ u) && decide (u ≤ sp.hi)) = x := ⟨_, rfl⟩
                have o1 : isOpenH h Dr u = (w, 0) := by rw [hdR h hc hv rfl, hw]
                have o2 : isOpenH nh Dr u = (w && !i, 0) := by rw [hdR nh nc nv hnd, hop u, hw, hi]
                refine OKat.of_body (rs := [18]) Tryd.func9 rfl (by decide +kernel) rfl (by simp [Tryd.ntmps9]) ?_
                simp only [Tryd.ntmps9]
                repeat' first
                  | apply AW.seq | apply AW.region | apply AW.ret | apply AW.block | apply AW.skip | apply AW.exit | apply AW.scope | apply AW.label | apply AWL.nil | apply D.nil
                  | refine W.draw cx_mixed (by decide +kernel) ?_
                  | ((first | (apply W.step cx_ok; decide) | (apply D.step cx_ok; decide; decide) | apply W.store cx_ok | (apply W.gS; rfl; decide) | (apply D.gS; rfl; decide; decide) | apply AW.cond); (simp (disch := omega) only [push_cast, simprocAttr, hr, hds, hta, htb, htu, hl40, hDr, hF, hT, hsd, q1, q2, q3, q4, hXl, hYl, hVl, hWdl, hnr] <;> rfl); all_goals try ((with_reducible intro hI); try first | (cases hI; done) | (simp only [INTS, not_true_eq_false] at hI; try first | (exfalso; omega) | (have hT : True := hI; clear hT hI))))
                  | ((first | (apply W.gU; rfl; decide) | (apply D.gU; rfl; decide; decide)); (simp (disch := omega) only [push_cast, simprocAttr, hr, hds, hta, htb, htu, hl40, hDr, hF, hT, hsd, q1, q2, q3, q4, hXl, hYl, hVl, hWdl, hnr] <;> rfl))
                  | ((first | (apply W.callv cx_ok; decide) | (apply D.callv cx_ok; decide; decide)); (iterate 2 (simp (disch := omega) only [push_cast, simprocAttr, hr, hds, hta, htb, htu, hl40, hDr, hF, hT, hsd, q1, q2, q3, q4, hXl, hYl, hVl, hWdl, hnr] <;> rfl)); (with_reducible first | exact right_ok _ hn | exact sanity_ok | exact Time_ok _ | exact some_ok _ _ (by omega) | exact Shut_ok _ _ _ hfit | exact Earliest_ok _ _ _ hfit | exact Latest_ok _ _ _ hfit | exact Earliest_ok _ _ _ nfit | exact Latest_ok _ _ _ nfit | exact CheckWall_ok _ _ _ _ _ _ hfit (by omega) | exact CheckWall_ok _ _ _ _ _ _ nfit (by omega) | exact Wall_ok _ _ _ _ _ hfit | exact IsOpen_ok _ _ _ hfit | exact IsOpen_ok _ _ _ nfit | exact In_ok _ _ _); try first | rfl | (simp (disch := omega) only [push_cast, simprocAttr, hr, hds, hta, htb, htu, hl40, hDr, hF, hT, hsd, q1, q2, q3, q4, hXl, hYl, hVl, hWdl, hnr] <;> rfl))
                  | ((first | apply W.ret1 | apply W.end1); (iterate 2 (try (simp (disch := omega) only [push_cast, simprocAttr, hr, hds, hta, htb, htu, hl40, hDr, hF, hT, hsd, q1, q2, q3, q4, hXl, hYl, hVl, hWdl, hnr] <;> rfl))))
                refine AW.loop (fun n s => ∃ (k : Nat), n = h.rooms.length - k ∧ (k ≤ h.rooms.length) ∧ 3 ≤ s.nx ∧ s.tm 4 = ai ta ∧ s.tm 6 = ai tb ∧ s.tm 7 = ai u ∧ s.tm 8 = lInt l ∧ s.tm 9 = .ptr 0 0 0 1 ∧ s.tm 11 = .ptr 1 0 0 1 ∧ s.tm 19 = ai Dr ∧ s.tm 20 = ai F ∧ s.tm 21 = ai T ∧ s.tm 22 = .ptr 2 0 0 1 ∧ s.tm 24 = lInt X ∧ s.tm 26 = lInt Y ∧ s.tm 28 = lInt V ∧ s.tm 30 = lInt Wd ∧ s.tm 32 = ai k ∧ Pg.rowAt s.H (0) = some ({ k := 3, es := [eHouse h], ty := 26 }) ∧ Pg.rowAt s.H (1) = some ({ k := 2, es := [eSpan sp], ty := 38 }) ∧ Pg.rowAt s.H (2) = some ({ k := 3, es := [eHouse nh], ty := 26 })) (h.rooms.length) ⟨0, rfl, (by omega), ?_, ?_, ?_, ?_, ?_, ?_, ?_, ?_, ?_, ?_, ?_, ?_, ?_, ?_, ?_, ?_, ?_, ?_, ?_⟩ ?_
                iterate 19 (first | (simp (disch := omega) only [push_cast, simprocAttr, hr, hds, hta, htb, htu, hl40, hDr, hF, hT, hsd, q1, q2, q3, q4, hXl, hYl, hVl, hWdl, hnr] <;> first | rfl | omega) | omega)
                rintro n s ⟨k, hn, hp0, hnl, hS⟩
                have hZ : (0 : Nat) ≠ s.nx ∧ s.nx ≠ (0 : Nat) ∧ (1 : Nat) ≠ s.nx ∧ s.nx ≠ (1 : Nat) ∧ (2 : Nat) ≠ s.nx ∧ s.nx ≠ (2 : Nat) := by omega
                by_cases hk : k < h.rooms.length
                ·
                  have k1 : (k : Int) < (h.rooms.length : Int) := by omega
                  have k2 : ¬ (Y.getD k 0 < X.getD k 0) := by have := hXY k hk; omega
                  have k3 : ¬ (V.getD k 0 < Wd.getD k 0) := by have := hVW k hk; omega
                  have k4 : k < X.length ∧ k < Y.length ∧ k < V.length ∧ k < Wd.length := by omega
                  repeat' first
                    | apply AW.seq | apply AW.region | apply AW.ret | apply AW.block | apply AW.skip | apply AW.exit | apply AW.scope | apply AW.label | apply AWL.nil | apply D.nil
                    | refine W.draw cx_mixed (by decide +kernel) ?_
                    | ((first | (apply W.step cx_ok; decide) | (apply D.step cx_ok; decide; decide) | apply W.store cx_ok | (apply W.gS; rfl; decide) | (apply D.gS; rfl; decide; decide) | apply AW.cond); (simp (disch := omega) only [push_cast, simprocAttr, hS, hZ, hk, k1, k2, k3, k4, hXl, hYl, hVl, hWdl] <;> rfl); all_goals try ((with_reducible intro hI); try first | (cases hI; done) | (simp only [INTS, not_true_eq_false] at hI; try first | (exfalso; omega) | (have hT : True := hI; clear hT hI))))
                    | ((first | (apply W.gU; rfl; decide) | (apply D.gU; rfl; decide; decide)); (simp (disch := omega) only [push_cast, simprocAttr, hS, hZ, hk, k1, k2, k3, k4, hXl, hYl, hVl, hWdl] <;> rfl))
                    | ((first | (apply W.callv cx_ok; decide) | (apply D.callv cx_ok; decide; decide)); (iterate 2 (simp (disch := omega) only [push_cast, simprocAttr, hS, hZ, hk, k1, k2, k3, k4, hXl, hYl, hVl, hWdl] <;> rfl)); (with_reducible first | exact right_ok _ hn | exact sanity_ok | exact Time_ok _ | exact some_ok _ _ (by omega) | exact Shut_ok _ _ _ hfit | exact Earliest_ok _ _ _ hfit | exact Latest_ok _ _ _ hfit | exact Earliest_ok _ _ _ nfit | exact Latest_ok _ _ _ nfit | exact CheckWall_ok _ _ _ _ _ _ hfit (by omega) | exact CheckWall_ok _ _ _ _ _ _ nfit (by omega) | exact Wall_ok _ _ _ _ _ hfit | exact IsOpen_ok _ _ _ hfit | exact IsOpen_ok _ _ _ nfit | exact In_ok _ _ _); try first | rfl | (simp (disch := omega) only [push_cast, simprocAttr, hS, hZ, hk, k1, k2, k3, k4, hXl, hYl, hVl, hWdl] <;> rfl))
                    | ((first | apply W.ret1 | apply W.end1); (iterate 2 (try (simp (disch := omega) only [push_cast, simprocAttr, hS, hZ, hk, k1, k2, k3, k4, hXl, hYl, hVl, hWdl] <;> rfl))))
                  all_goals (refine ⟨h.rooms.length - (k + 1), ?_, k + 1, rfl, (by omega), ?_, ?_, ?_, ?_, ?_, ?_, ?_, ?_, ?_, ?_, ?_, ?_, ?_, ?_, ?_, ?_, ?_, ?_, ?_⟩; ((omega)); all_goals first | (simp (disch := omega) only [push_cast, simprocAttr, hS, hZ, hk] <;> first | rfl | omega) | omega)
                ·
                  have k1 : ¬ ((k : Int) < (h.rooms.length : Int)) := by omega
                  repeat' first
                    | apply AW.seq | apply AW.region | apply AW.ret | apply AW.block | apply AW.skip | apply AW.exit | apply AW.scope | apply AW.label | apply AWL.nil | apply D.nil
                    | refine W.draw cx_mixed (by decide +kernel) ?_
                    | ((first | (apply W.step cx_ok; decide) | (apply D.step cx_ok; decide; decide) | apply W.store cx_ok | (apply W.gS; rfl; decide) | (apply D.gS; rfl; decide; decide) | apply AW.cond); (simp (disch := omega) only [push_cast, simprocAttr, hS, hZ, k1, hXl, hYl, hVl, hWdl, hA, hB, q5, hCc, o1, o2, hi] <;> rfl); all_goals try ((with_reducible intro hI); try first | (cases hI; done) | (simp only [INTS, not_true_eq_false] at hI; try first | (exfalso; omega) | (have hT : True := hI; clear hT hI))))
                    | ((first | (apply W.gU; rfl; decide) | (apply D.gU; rfl; decide; decide)); (simp (disch := omega) only [push_cast, simprocAttr, hS, hZ, k1, hXl, hYl, hVl, hWdl, hA, hB, q5, hCc, o1, o2, hi] <;> rfl))
                    | ((first | (apply W.callv cx_ok; decide) | (apply D.callv cx_ok; decide; decide)); (iterate 2 (simp (disch := omega) only [push_cast, simprocAttr, hS, hZ, k1, hXl, hYl, hVl, hWdl, hA, hB, q5, hCc, o1, o2, hi] <;> rfl)); (with_reducible first | exact right_ok _ hn | exact sanity_ok | exact Time_ok _ | exact some_ok _ _ (by omega) | exact Shut_ok _ _ _ hfit | exact Earliest_ok _ _ _ hfit | exact Latest_ok _ _ _ hfit | exact Earliest_ok _ _ _ nfit | exact Latest_ok _ _ _ nfit | exact CheckWall_ok _ _ _ _ _ _ hfit (by omega) | exact CheckWall_ok _ _ _ _ _ _ nfit (by omega) | exact Wall_ok _ _ _ _ _ hfit | exact IsOpen_ok _ _ _ hfit | exact IsOpen_ok _ _ _ nfit | exact In_ok _ _ _); try first | rfl | (simp (disch := omega) only [push_cast, simprocAttr, hS, hZ, k1, hXl, hYl, hVl, hWdl, hA, hB, q5, hCc, o1, o2, hi] <;> rfl))
                    | ((first | apply W.ret1 | apply W.end1); (iterate 2 (try (simp (disch := omega) only [push_cast, simprocAttr, hS, hZ, k1, hXl, hYl, hVl, hWdl, hA, hB, q5, hCc, o1, o2, hi] <;> rfl))))
                  all_goals (show _ = _; first | rfl | (simp_all; done))
              ·
                have hz : (shutDoor h Dr sp).1 = House.zero := shut_zero he
                have hsd : shutDoor h Dr sp = (House.zero, (shutDoor h Dr sp).2) := by rw [← hz]
                obtain ⟨e, hee⟩ : ∃ x, (shutDoor h Dr sp).2 = x := ⟨_, rfl⟩
                rw [hee] at hsd he
                refine OKat.of_body (rs := [18]) Tryd.func9 rfl (by decide +kernel) rfl (by simp [Tryd.ntmps9]) ?_
                simp only [Tryd.ntmps9]
                repeat' first
                  | apply AW.seq | apply AW.region | apply AW.ret | apply AW.block | apply AW.skip | apply AW.exit | apply AW.scope | apply AW.label | apply AWL.nil | apply D.nil
                  | refine W.draw cx_mixed (by decide +kernel) ?_
                  | ((first | (apply W.step cx_ok; decide) | (apply D.step cx_ok; decide; decide) | apply W.store cx_ok | (apply W.gS; rfl; decide) | (apply D.gS; rfl; decide; decide) | apply AW.cond); (simp (disch := omega) only [push_cast, simprocAttr, hr, hds, hta, htb, htu, hl40, hDr, hF, hT, hsd, he, House.zero, List.length_nil] <;> rfl); all_goals try ((with_reducible intro hI); try first | (cases hI; done) | (simp only [INTS, not_true_eq_false] at hI; try first | (exfalso; omega) | (have hT : True := hI; clear hT hI))))
                  | ((first | (apply W.gU; rfl; decide) | (apply D.gU; rfl; decide; decide)); (simp (disch := omega) only [push_cast, simprocAttr, hr, hds, hta, htb, htu, hl40, hDr, hF, hT, hsd, he, House.zero, List.length_nil] <;> rfl))
                  | ((first | (apply W.callv cx_ok; decide) | (apply D.callv cx_ok; decide; decide)); (iterate 2 (simp (disch := omega) only [push_cast, simprocAttr, hr, hds, hta, htb, htu, hl40, hDr, hF, hT, hsd, he, House.zero, List.length_nil] <;> rfl)); (with_reducible first | exact right_ok _ hn | exact sanity_ok | exact Time_ok _ | exact some_ok _ _ (by omega) | exact Shut_ok _ _ _ hfit); try first | rfl | (simp (disch := omega) only [push_cast, simprocAttr, hr, hds, hta, htb, htu, hl40, hDr, hF, hT, hsd, he, House.zero, List.length_nil] <;> rfl))
                  | ((first | apply W.ret1 | apply W.end1); (iterate 2 (try (simp (disch := omega) only [push_cast, simprocAttr, hr, hds, hta, htb, htu, hl40, hDr, hF, hT, hsd, he, House.zero, List.length_nil] <;> rfl))))
                all_goals (show _ = _; first | rfl | (simp_all; done))
            ·
              refine OKat.of_body (rs := [18]) Tryd.func9 rfl (by decide +kernel) rfl (by simp [Tryd.ntmps9]) ?_
              simp only [Tryd.ntmps9]
              repeat' first
                | apply AW.seq | apply AW.region | apply AW.ret | apply AW.block | apply AW.skip | apply AW.exit | apply AW.scope | apply AW.label | apply AWL.nil | apply D.nil
                | refine W.draw cx_mixed (by decide +kernel) ?_
                | ((first | (apply W.step cx_ok; decide) | (apply D.step cx_ok; decide; decide) | apply W.store cx_ok | (apply W.gS; rfl; decide) | (apply D.gS; rfl; decide; decide) | apply AW.cond); (simp (disch := omega) only [push_cast, simprocAttr, hr, hds, hta, htb, htu, hl40] <;> rfl); all_goals try ((with_reducible intro hI); try first | (cases hI; done) | (simp only [INTS, not_true_eq_false] at hI; try first | (exfalso; omega) | (have hT : True := hI; clear hT hI))))
                | ((first | (apply W.gU; rfl; decide) | (apply D.gU; rfl; decide; decide)); (simp (disch := omega) only [push_cast, simprocAttr, hr, hds, hta, htb, htu, hl40] <;> rfl))
                | ((first | (apply W.callv cx_ok; decide) | (apply D.callv cx_ok; decide; decide)); (iterate 2 (simp (disch := omega) only [push_cast, simprocAttr, hr, hds, hta, htb, htu, hl40] <;> rfl)); (with_reducible first | exact right_ok _ hn | exact sanity_ok | exact Time_ok _); try first | rfl | (simp (disch := omega) only [push_cast, simprocAttr, hr, hds, hta, htb, htu, hl40] <;> rfl))
                | ((first | apply W.ret1 | apply W.end1); (iterate 2 (try (simp (disch := omega) only [push_cast, simprocAttr, hr, hds, hta, htb, htu, hl40] <;> rfl))))
              all_goals (show _ = _; first | rfl | (simp_all; done))
          ·
            have htu' : (decide (0 ≤ u) && decide (u ≤ 1073741823)) = false := by simpa using htu
            refine OKat.of_body (rs := [18]) Tryd.func9 rfl (by decide +kernel) rfl (by simp [Tryd.ntmps9]) ?_
            simp only [Tryd.ntmps9]
            repeat' first
              | apply AW.seq | apply AW.region | apply AW.ret | apply AW.block | apply AW.skip | apply AW.exit | apply AW.scope | apply AW.label | apply AWL.nil | apply D.nil
              | refine W.draw cx_mixed (by decide +kernel) ?_
              | ((first | (apply W.step cx_ok; decide) | (apply D.step cx_ok; decide; decide) | apply W.store cx_ok | (apply W.gS; rfl; decide) | (apply D.gS; rfl; decide; decide) | apply AW.cond); (simp (disch := omega) only [push_cast, simprocAttr, hr, hds, hta, htb, htu'] <;> rfl); all_goals try ((with_reducible intro hI); try first | (cases hI; done) | (simp only [INTS, not_true_eq_false] at hI; try first | (exfalso; omega) | (have hT : True := hI; clear hT hI))))
              | ((first | (apply W.gU; rfl; decide) | (apply D.gU; rfl; decide; decide)); (simp (disch := omega) only [push_cast, simprocAttr, hr, hds, hta, htb, htu'] <;> rfl))
              | ((first | (apply W.callv cx_ok; decide) | (apply D.callv cx_ok; decide; decide)); (iterate 2 (simp (disch := omega) only [push_cast, simprocAttr, hr, hds, hta, htb, htu'] <;> rfl)); (with_reducible first | exact right_ok _ hn | exact sanity_ok | exact Time_ok _); try first | rfl | (simp (disch := omega) only [push_cast, simprocAttr, hr, hds, hta, htb, htu'] <;> rfl))
              | ((first | apply W.ret1 | apply W.end1); (iterate 2 (try (simp (disch := omega) only [push_cast, simprocAttr, hr, hds, hta, htb, htu'] <;> rfl))))
            all_goals (show _ = _; first | rfl | (simp_all; done))
        ·
          have htb' : (decide (0 ≤ tb) && decide (tb ≤ 1073741823)) = false := by simpa using htb
          refine OKat.of_body (rs := [18]) Tryd.func9 rfl (by decide +kernel) rfl (by simp [Tryd.ntmps9]) ?_
          simp only [Tryd.ntmps9]
          repeat' first
            | apply AW.seq | apply AW.region | apply AW.ret | apply AW.block | apply AW.skip | apply AW.exit | apply AW.scope | apply AW.label | apply AWL.nil | apply D.nil
            | refine W.draw cx_mixed (by decide +kernel) ?_
            | ((first | (apply W.step cx_ok; decide) | (apply D.step cx_ok; decide; decide) | apply W.store cx_ok | (apply W.gS; rfl; decide) | (apply D.gS; rfl; decide; decide) | apply AW.cond); (simp (disch := omega) only [push_cast, simprocAttr, hr, hds, hta, htb'] <;> rfl); all_goals try ((with_reducible intro hI); try first | (cases hI; done) | (simp only [INTS, not_true_eq_false] at hI; try first | (exfalso; omega) | (have hT : True := hI; clear hT hI))))
            | ((first | (apply W.gU; rfl; decide) | (apply D.gU; rfl; decide; decide)); (simp (disch := omega) only [push_cast, simprocAttr, hr, hds, hta, htb'] <;> rfl))
            | ((first | (apply W.callv cx_ok; decide) | (apply D.callv cx_ok; decide; decide)); (iterate 2 (simp (disch := omega) only [push_cast, simprocAttr, hr, hds, hta, htb'] <;> rfl)); (with_reducible first | exact right_ok _ hn | exact sanity_ok | exact Time_ok _); try first | rfl | (simp (disch := omega) only [push_cast, simprocAttr, hr, hds, hta, htb'] <;> rfl))
            | ((first | apply W.ret1 | apply W.end1); (iterate 2 (try (simp (disch := omega) only [push_cast, simprocAttr, hr, hds, hta, htb'] <;> rfl))))
          all_goals (show _ = _; first | rfl | (simp_all; done))
      ·
        have hta' : (decide (0 ≤ ta) && decide (ta ≤ 1073741823)) = false := by simpa using hta
        refine OKat.of_body (rs := [18]) Tryd.func9 rfl (by decide +kernel) rfl (by simp [Tryd.ntmps9]) ?_
        simp only [Tryd.ntmps9]
        repeat' first
          | apply AW.seq | apply AW.region | apply AW.ret | apply AW.block | apply AW.skip | apply AW.exit | apply AW.scope | apply AW.label | apply AWL.nil | apply D.nil
          | refine W.draw cx_mixed (by decide +kernel) ?_
          | ((first | (apply W.step cx_ok; decide) | (apply D.step cx_ok; decide; decide) | apply W.store cx_ok | (apply W.gS; rfl; decide) | (apply D.gS; rfl; decide; decide) | apply AW.cond); (simp (disch := omega) only [push_cast, simprocAttr, hr, hds, hta'] <;> rfl); all_goals try ((with_reducible intro hI); try first | (cases hI; done) | (simp only [INTS, not_true_eq_false] at hI; try first | (exfalso; omega) | (have hT : True := hI; clear hT hI))))
          | ((first | (apply W.gU; rfl; decide) | (apply D.gU; rfl; decide; decide)); (simp (disch := omega) only [push_cast, simprocAttr, hr, hds, hta'] <;> rfl))
          | ((first | (apply W.callv cx_ok; decide) | (apply D.callv cx_ok; decide; decide)); (iterate 2 (simp (disch := omega) only [push_cast, simprocAttr, hr, hds, hta'] <;> rfl)); (with_reducible first | exact right_ok _ hn | exact sanity_ok | exact Time_ok _); try first | rfl | (simp (disch := omega) only [push_cast, simprocAttr, hr, hds, hta'] <;> rfl))
          | ((first | apply W.ret1 | apply W.end1); (iterate 2 (try (simp (disch := omega) only [push_cast, simprocAttr, hr, hds, hta'] <;> rfl))))
        all_goals (show _ = _; first | rfl | (simp_all; done))
    ·
      refine OKat.of_body (rs := [18]) Tryd.func9 rfl (by decide +kernel) rfl (by simp [Tryd.ntmps9]) ?_
      simp only [Tryd.ntmps9]
      repeat' first
        | apply AW.seq | apply AW.region | apply AW.ret | apply AW.block | apply AW.skip | apply AW.exit | apply AW.scope | apply AW.label | apply AWL.nil | apply D.nil
        | refine W.draw cx_mixed (by decide +kernel) ?_
        | ((first | (apply W.step cx_ok; decide) | (apply D.step cx_ok; decide; decide) | apply W.store cx_ok | (apply W.gS; rfl; decide) | (apply D.gS; rfl; decide; decide) | apply AW.cond); (simp (disch := omega) only [push_cast, simprocAttr, hr, hds] <;> rfl); all_goals try ((with_reducible intro hI); try first | (cases hI; done) | (simp only [INTS, not_true_eq_false] at hI; try first | (exfalso; omega) | (have hT : True := hI; clear hT hI))))
        | ((first | (apply W.gU; rfl; decide) | (apply D.gU; rfl; decide; decide)); (simp (disch := omega) only [push_cast, simprocAttr, hr, hds] <;> rfl))
        | ((first | (apply W.callv cx_ok; decide) | (apply D.callv cx_ok; decide; decide)); (iterate 2 (simp (disch := omega) only [push_cast, simprocAttr, hr, hds] <;> rfl)); (with_reducible first | exact right_ok _ hn | exact sanity_ok | exact Time_ok _); try first | rfl | (simp (disch := omega) only [push_cast, simprocAttr, hr, hds] <;> rfl))
        | ((first | apply W.ret1 | apply W.end1); (iterate 2 (try (simp (disch := omega) only [push_cast, simprocAttr, hr, hds] <;> rfl))))
      all_goals (show _ = _; first | rfl | (simp_all; done))
  ·
    have hr' : (few h && decide ((Check h).1 = 0)) = false := by simpa using hr
    refine OKat.of_body (rs := [18]) Tryd.func9 rfl (by decide +kernel) rfl (by simp [Tryd.ntmps9]) ?_
    simp only [Tryd.ntmps9]
    repeat' first
      | apply AW.seq | apply AW.region | apply AW.ret | apply AW.block | apply AW.skip | apply AW.exit | apply AW.scope | apply AW.label | apply AWL.nil | apply D.nil
      | refine W.draw cx_mixed (by decide +kernel) ?_
      | ((first | (apply W.step cx_ok; decide) | (apply D.step cx_ok; decide; decide) | apply W.store cx_ok | (apply W.gS; rfl; decide) | (apply D.gS; rfl; decide; decide) | apply AW.cond); (simp (disch := omega) only [push_cast, simprocAttr, hr'] <;> rfl); all_goals try ((with_reducible intro hI); try first | (cases hI; done) | (simp only [INTS, not_true_eq_false] at hI; try first | (exfalso; omega) | (have hT : True := hI; clear hT hI))))
      | ((first | (apply W.gU; rfl; decide) | (apply D.gU; rfl; decide; decide)); (simp (disch := omega) only [push_cast, simprocAttr, hr'] <;> rfl))
      | ((first | (apply W.callv cx_ok; decide) | (apply D.callv cx_ok; decide; decide)); (iterate 2 (simp (disch := omega) only [push_cast, simprocAttr, hr'] <;> rfl)); (with_reducible first | exact right_ok _ hn | exact sanity_ok | exact Time_ok _); try first | rfl | (simp (disch := omega) only [push_cast, simprocAttr, hr'] <;> rfl))
      | ((first | apply W.ret1 | apply W.end1); (iterate 2 (try (simp (disch := omega) only [push_cast, simprocAttr, hr'] <;> rfl))))
    all_goals (show _ = _; first | rfl | (simp_all; done))

end Go.Proofs.Hs
