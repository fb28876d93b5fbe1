/-
  Contracts of functions, proved by going through their code. No conditions.
-/
import Derived.Test.YtofdhddbfjfkcaaDoorVc
import Derived.Test.YtofdhddbfjfkcaaDoorVl
set_option maxHeartbeats 8000000
set_option linter.unusedSimpArgs false
set_option linter.unusedVariables false
set_option maxRecDepth 10000
namespace Go.Proofs.Hs
open Go Go.Pg Go.Proofs

theorem asked_lit (h : House) (rooms : List Int) (t : Int) (hfit : h.Fit) (hrm : rooms.length ≤ 1099511627776) : OKv cx 74 [.agg (eHouse h), lInt rooms, .lst [[ai t]]] (ai (askedE h rooms [t])) := asked_ok h rooms [t] hfit hrm (by simp)
theorem asked_one {h : House} {rs ts : List Int} (hc : (Check h).1 = 0) (he : ¬ askedE h rs ts = 0) : askedE h rs ts = 1 := by
  unfold askedE at he ⊢
  rw [if_neg (by simp [hc])] at he ⊢
  split
  · rename_i h1
    rw [if_pos h1] at he
    split
    · rename_i h2; rw [if_pos h2] at he; exact absurd rfl he
    · rfl
  · rfl
theorem room_one {h : House} {r t : Int} (hc : (Check h).1 = 0) (he : ¬ roomE h r t = 0) : roomE h r t = 1 := by
  unfold roomE at he ⊢
  rw [if_neg (by simp [hc])] at he ⊢
  split
  · rfl
  · rename_i h1; rw [if_neg h1] at he; exact absurd rfl he
theorem asked_bad {h : House} {rs : List Int} {t : Int} (hc : (Check h).1 = 0) (h0 : 1 ≤ rs.length) (he : ¬ askedE h rs [t] = 0) : ∃ r ∈ rs, roomE h r t ≠ 0 := by
  refine Classical.byContradiction fun hno => he ?_
  have hall : ∀ r ∈ rs, roomE h r t = 0 := fun r hr => Classical.byContradiction fun hq => hno ⟨r, hr, hq⟩
  have hz : ∀ r ∈ rs, roomB h r = true ∧ timeB t = true := fun r hr => by
    obtain ⟨_, h1, h2⟩ := roomE_zero (hall r hr)
    unfold timeOK at h2
    simp only [roomB, timeB, Bool.and_eq_true, decide_eq_true_eq]
    exact ⟨h1, h2⟩
  unfold askedE
  rw [if_neg (by simp [hc]), if_pos (List.all_eq_true.2 fun r hr => (hz r hr).1)]
  cases rs with
  | nil => simp at h0
  | cons r rs => simp [(hz r (by simp)).2]
theorem Tour_ok (h : House) (rooms : List Int) (t : Int) (hfit : h.Fit) (hrm : rooms.length ≤ 1099511627776) : OKv cx 61 [.agg (eHouse h), lInt rooms, ai t] (.tup [ai (tourH h rooms t).1, ai (tourH h rooms t).2]) := by
  by_cases hc : (Check h).1 = 0
  · have hv := Check_V hc
    have hrl := hv.rooms
    by_cases h0 : rooms.length = 0
    · have h0' : (rooms.length : Int) = 0 := by omega
      have hE : tourH h rooms t = (0, 1) := by unfold tourH; rw [if_neg (by simp [hc]), if_pos h0]
      refine OKat.of_body (rs := [6, 7]) Tryd.func61 rfl (by decide +kernel) rfl (by simp [Tryd.ntmps61]) ?_
      simp only [Tryd.ntmps61]
      repeat' first
        | apply AW.seq | apply AW.region | apply AW.ret | apply AW.block | apply AW.skip | apply AW.exit | apply AW.scope | apply AW.label | apply AWL.nil | apply D.nil
        | refine W.draw cx_mixed (by decide +kernel) ?_
        | ((first | (apply W.step cx_ok; decide) | (apply D.step cx_ok; decide; decide) | (apply W.gS; rfl; decide) | (apply D.gS; rfl; decide; decide) | apply AW.cond); (simp (disch := omega) only [push_cast, simprocAttr, hc, h0'] <;> rfl); all_goals try ((with_reducible intro hI); try first | (cases hI; done) | (simp only [INTS] at hI; try first | (exfalso; omega) | (have hT : True := hI; clear hT hI))))
        | ((first | (apply W.callv cx_ok; decide) | (apply D.callv cx_ok; decide; decide)); (iterate 2 (simp (disch := omega) only [push_cast, simprocAttr, hc, h0'] <;> rfl)); (with_reducible first | exact Check_ok _ hfit | exact asked_ok h rooms [t] hfit (by omega) (by simp)); try first | rfl | (simp (disch := omega) only [push_cast, simprocAttr, hc, h0'] <;> rfl))
        | ((first | apply W.ret2 | apply W.end2); (iterate 2 (try (simp (disch := omega) only [push_cast, simprocAttr, hc, h0'] <;> rfl))))
      all_goals (show _ = _; rw [hE])
    · have h0' : ((rooms.length : Int) = 0) = False := eq_false (by omega)
      by_cases h60 : 60 < rooms.length
      · have h60' : 60 < (rooms.length : Int) := by omega
        have hE : tourH h rooms t = (0, 2) := by unfold tourH; rw [if_neg (by simp [hc]), if_neg h0, if_pos h60]
        refine OKat.of_body (rs := [6, 7]) Tryd.func61 rfl (by decide +kernel) rfl (by simp [Tryd.ntmps61]) ?_
        simp only [Tryd.ntmps61]
        repeat' first
          | apply AW.seq | apply AW.region | apply AW.ret | apply AW.block | apply AW.skip | apply AW.exit | apply AW.scope | apply AW.label | apply AWL.nil | apply D.nil
          | refine W.draw cx_mixed (by decide +kernel) ?_
          | ((first | (apply W.step cx_ok; decide) | (apply D.step cx_ok; decide; decide) | (apply W.gS; rfl; decide) | (apply D.gS; rfl; decide; decide) | apply AW.cond); (simp (disch := omega) only [push_cast, simprocAttr, hc, h0', h60'] <;> rfl); all_goals try ((with_reducible intro hI); try first | (cases hI; done) | (simp only [INTS] at hI; try first | (exfalso; omega) | (have hT : True := hI; clear hT hI))))
          | ((first | (apply W.callv cx_ok; decide) | (apply D.callv cx_ok; decide; decide)); (iterate 2 (simp (disch := omega) only [push_cast, simprocAttr, hc, h0', h60'] <;> rfl)); (with_reducible first | exact Check_ok _ hfit | exact asked_ok h rooms [t] hfit (by omega) (by simp)); try first | rfl | (simp (disch := omega) only [push_cast, simprocAttr, hc, h0', h60'] <;> rfl))
          | ((first | apply W.ret2 | apply W.end2); (iterate 2 (try (simp (disch := omega) only [push_cast, simprocAttr, hc, h0', h60'] <;> rfl))))
        all_goals (show _ = _; rw [hE])
      · have h60' : ¬ 60 < (rooms.length : Int) := by omega
        by_cases he : askedE h rooms [t] = 0
        · obtain ⟨_, hrr, htt⟩ := askedE_zero he
          have ht := htt t (by simp)
          have hE : tourH h rooms t = (tourL h (rooms.getD 0 0) rooms.tail t, 0) := by unfold tourH; rw [if_neg (by simp [hc]), if_neg h0, if_neg h60, if_neg (by simp [he])]
          have hr0 : isRoom h (rooms.getD 0 0) := hrr _ (List.mem_of_getElem? (getD_set' rooms 0 0 (by omega)))
          refine OKat.of_body (rs := [6, 7]) Tryd.func61 rfl (by decide +kernel) rfl (by simp [Tryd.ntmps61]) ?_
          simp only [Tryd.ntmps61]
          repeat' first
            | apply AW.seq | apply AW.region | apply AW.ret | apply AW.block | apply AW.skip | apply AW.exit | apply AW.scope | apply AW.label | apply AWL.nil | apply D.nil
            | refine W.draw cx_mixed (by decide +kernel) ?_
            | ((first | (apply W.step cx_ok; decide) | (apply D.step cx_ok; decide; decide) | (apply W.gS; rfl; decide) | (apply D.gS; rfl; decide; decide) | apply AW.cond); (simp (disch := omega) only [push_cast, simprocAttr, hc, h0', h60', he] <;> rfl); all_goals try ((with_reducible intro hI); try first | (cases hI; done) | (simp only [INTS] at hI; try first | (exfalso; omega) | (have hT : True := hI; clear hT hI))))
            | ((first | (apply W.callv cx_ok; decide) | (apply D.callv cx_ok; decide; decide)); (iterate 2 (simp (disch := omega) only [push_cast, simprocAttr, hc, h0', h60', he] <;> rfl)); (with_reducible first | exact Check_ok _ hfit | exact asked_lit h rooms t hfit hrm); try first | rfl | (simp (disch := omega) only [push_cast, simprocAttr, hc, h0', h60', he] <;> rfl))
            | ((first | apply W.ret2 | apply W.end2); (iterate 2 (try (simp (disch := omega) only [push_cast, simprocAttr, hc, h0', h60', he] <;> rfl))))
          refine AW.loop (fun n s => ∃ (k : Nat) (p tt : Int) (rest : List Int), n = rest.length ∧ (1 ≤ k ∧ rooms.drop k = rest) ∧ (rooms.getD (k - 1) 0 = p) ∧ (isRoom h p) ∧ (0 ≤ tt ∧ tt ≤ 1073741824) ∧ (tourL h p rest tt = tourL h (rooms.getD 0 0) rooms.tail t) ∧ 1 ≤ s.nx ∧ s.tm 1 = lInt rooms ∧ s.tm 2 = ai tt ∧ s.tm 3 = .ptr 0 0 0 1 ∧ s.tm 11 = ai k ∧ Pg.rowAt s.H (0) = some ({ k := 3, es := [eHouse h], ty := 26 })) (rooms.tail.length) ⟨1, rooms.getD 0 0, t, rooms.tail, rfl, ⟨Nat.le_refl _, List.drop_one⟩, rfl, hr0, (by omega), rfl, ?_, ?_, ?_, ?_, ?_, ?_⟩ ?_
          iterate 6 (first | (simp (disch := omega) only [push_cast, simprocAttr, hc, h0', h60', he] <;> first | rfl | omega) | omega)
          rintro n s ⟨k, p, tt, rest, hn, hp0, hp1, hp2, hp3, hp4, hnl, hS⟩
          have hZ : (0 : Nat) ≠ s.nx ∧ s.nx ≠ (0 : Nat) := by omega
          rcases rest with _ | ⟨x, rest⟩
          · have hk := drop_nil hp0.2
            repeat' first
              | apply AW.seq | apply AW.region | apply AW.ret | apply AW.block | apply AW.skip | apply AW.exit | apply AW.scope | apply AW.label | apply AWL.nil | apply D.nil
              | refine W.draw cx_mixed (by decide +kernel) ?_
              | ((first | (apply W.step cx_ok; decide) | (apply D.step cx_ok; decide; decide) | (apply W.gS; rfl; decide) | (apply D.gS; rfl; decide; decide) | apply AW.cond); (simp (disch := omega) only [push_cast, simprocAttr, hS, hZ, hk] <;> rfl); all_goals try ((with_reducible intro hI); try first | (cases hI; done) | (simp only [INTS] at hI; try first | (exfalso; omega) | (have hT : True := hI; clear hT hI))))
              | ((first | apply W.ret2 | apply W.end2); (iterate 2 (try (simp (disch := omega) only [push_cast, simprocAttr, hS, hZ, hk] <;> rfl))))
            all_goals (show _ = _; rw [hE, ← hp4]; rfl)
          · obtain ⟨hk, hg, hd', hl', hm, hx⟩ := drop_cons hp0.2 eInt []
            have hxr := hrr x hm
            by_cases htn : tt = 1073741824
            · have htn' : (tt = 1073741824) = True := eq_true htn
              repeat' first
                | apply AW.seq | apply AW.region | apply AW.ret | apply AW.block | apply AW.skip | apply AW.exit | apply AW.scope | apply AW.label | apply AWL.nil | apply D.nil
                | refine W.draw cx_mixed (by decide +kernel) ?_
                | ((first | (apply W.step cx_ok; decide) | (apply D.step cx_ok; decide; decide) | (apply W.gS; rfl; decide) | (apply D.gS; rfl; decide; decide) | apply AW.cond); (simp (disch := omega) only [push_cast, simprocAttr, hS, hZ, hk, htn'] <;> rfl); all_goals try ((with_reducible intro hI); try first | (cases hI; done) | (simp only [INTS] at hI; try first | (exfalso; omega) | (have hT : True := hI; clear hT hI))))
                | ((first | apply W.ret2 | apply W.end2); (iterate 2 (try (simp (disch := omega) only [push_cast, simprocAttr, hS, hZ, hk, htn'] <;> rfl))))
              all_goals (show _ = _; rw [hE, ← hp4, tourL, if_pos htn])
            · have htn' : (tt = 1073741824) = False := eq_false htn
              have htb : 0 ≤ tt ∧ tt ≤ 1073741823 := by have := hp3; omega
              have hk1 := hp0.1
              have hkm0 : (0 : Int) ≤ (k : Int) - 1 := by omega
              have hkm1 : (k : Int) - 1 < (rooms.length : Int) := by omega
              have hkm2 : ((k : Int) - 1).toNat < rooms.length := by omega
              have hgp : rooms.getD ((k : Int) - 1).toNat 0 = p := by rw [← hp1]; congr 1; omega
              have hpr := hp2
              unfold isRoom at hpr hxr
              obtain ⟨X, hX⟩ : ∃ y, arrR h p.toNat tt = y := ⟨_, rfl⟩
              have hXl : X.length = h.rooms.length := by rw [← hX]; exact (arrR_is hv (a := p.toNat) (by omega) (t := tt) (by omega)).1
              have hXb := arr_at hv (p := p) (b := x) hpr hxr (t := tt) (by omega)
              rw [hX] at hXb
              have hao := arrivals_ok h p tt hfit hv hpr htb
              rw [arrH_eq hv hpr htb, hX] at hao
              have c1 := hxr.1
              have c2 : x < (X.length : Int) := by omega
              have c3 : x.toNat < X.length := by omega
              have c4 : k < rooms.length := by omega
              repeat' first
                | apply AW.seq | apply AW.region | apply AW.ret | apply AW.block | apply AW.skip | apply AW.exit | apply AW.scope | apply AW.label | apply AWL.nil | apply D.nil
                | refine W.draw cx_mixed (by decide +kernel) ?_
                | ((first | (apply W.step cx_ok; decide) | (apply D.step cx_ok; decide; decide) | (apply W.gS; rfl; decide) | (apply D.gS; rfl; decide; decide) | apply AW.cond); (simp (disch := omega) only [push_cast, simprocAttr, hS, hZ, hk, hg, htn', hkm0, hkm1, hkm2, hgp, c1, c2, c3] <;> rfl); all_goals try ((with_reducible intro hI); try first | (cases hI; done) | (simp only [INTS] at hI; try first | (exfalso; omega) | (have hT : True := hI; clear hT hI))))
                | ((first | (apply W.callv cx_ok; decide) | (apply D.callv cx_ok; decide; decide)); (iterate 2 (simp (disch := omega) only [push_cast, simprocAttr, hS, hZ, hk, hg, htn', hkm0, hkm1, hkm2, hgp, c1, c2, c3] <;> rfl)); (with_reducible first | exact hao); try first | rfl | (simp (disch := omega) only [push_cast, simprocAttr, hS, hZ, hk, hg, htn', hkm0, hkm1, hkm2, hgp, c1, c2, c3] <;> rfl))
                | ((first | apply W.ret2 | apply W.end2); (iterate 2 (try (simp (disch := omega) only [push_cast, simprocAttr, hS, hZ, hk, hg, htn', hkm0, hkm1, hkm2, hgp, c1, c2, c3] <;> rfl))))
              all_goals
                (rw [tourL, if_neg htn, hX] at hp4
                 (refine ⟨rest.length, ?_, k + 1, x, X.getD x.toNat 0, rest, rfl, ⟨(by omega), hd'⟩, (by rw [Nat.add_sub_cancel]; rw [List.getD_eq_getElem?_getD, List.getElem?_eq_getElem c4]; have hq := hx; rw [List.getElem?_map, List.getElem?_eq_getElem c4] at hq; simpa using hq), (by unfold isRoom; omega), (by omega), hp4, ?_, ?_, ?_, ?_, ?_, ?_⟩; ((simp only [List.length_cons] at *; omega)); all_goals first | (simp (disch := omega) only [push_cast, simprocAttr, hS, hZ, hg, hk, hkm0, hkm1, hkm2, hgp, c1, c2, c3] <;> first | rfl | omega) | omega))
        · have hE : tourH h rooms t = (0, askedE h rooms [t]) := by unfold tourH; rw [if_neg (by simp [hc]), if_neg h0, if_neg h60, if_pos he]
          refine OKat.of_body (rs := [6, 7]) Tryd.func61 rfl (by decide +kernel) rfl (by simp [Tryd.ntmps61]) ?_
          simp only [Tryd.ntmps61]
          repeat' first
            | apply AW.seq | apply AW.region | apply AW.ret | apply AW.block | apply AW.skip | apply AW.exit | apply AW.scope | apply AW.label | apply AWL.nil | apply D.nil
            | refine W.draw cx_mixed (by decide +kernel) ?_
            | ((first | (apply W.step cx_ok; decide) | (apply D.step cx_ok; decide; decide) | (apply W.gS; rfl; decide) | (apply D.gS; rfl; decide; decide) | apply AW.cond); (simp (disch := omega) only [push_cast, simprocAttr, hc, h0', h60', he] <;> rfl); all_goals try ((with_reducible intro hI); try first | (cases hI; done) | (simp only [INTS] at hI; try first | (exfalso; omega) | (have hT : True := hI; clear hT hI))))
            | ((first | (apply W.callv cx_ok; decide) | (apply D.callv cx_ok; decide; decide)); (iterate 2 (simp (disch := omega) only [push_cast, simprocAttr, hc, h0', h60', he] <;> rfl)); (with_reducible first | exact Check_ok _ hfit | exact asked_lit h rooms t hfit hrm); try first | rfl | (simp (disch := omega) only [push_cast, simprocAttr, hc, h0', h60', he] <;> rfl))
            | ((first | apply W.ret2 | apply W.end2); (iterate 2 (try (simp (disch := omega) only [push_cast, simprocAttr, hc, h0', h60', he] <;> rfl))))
          all_goals (show _ = _; rw [hE])
  · have hE : tourH h rooms t = (0, (Check h).1) := if_pos hc
    refine OKat.of_body (rs := [6, 7]) Tryd.func61 rfl (by decide +kernel) rfl (by simp [Tryd.ntmps61]) ?_
    simp only [Tryd.ntmps61]
    repeat' first
      | apply AW.seq | apply AW.region | apply AW.ret | apply AW.block | apply AW.skip | apply AW.exit | apply AW.scope | apply AW.label | apply AWL.nil | apply D.nil
      | refine W.draw cx_mixed (by decide +kernel) ?_
      | ((first | (apply W.step cx_ok; decide) | (apply D.step cx_ok; decide; decide) | (apply W.gS; rfl; decide) | (apply D.gS; rfl; decide; decide) | apply AW.cond); (simp (disch := omega) only [push_cast, simprocAttr, hc] <;> rfl); all_goals try ((with_reducible intro hI); try first | (cases hI; done) | (simp only [INTS] at hI; try first | (exfalso; omega) | (have hT : True := hI; clear hT hI))))
      | ((first | (apply W.callv cx_ok; decide) | (apply D.callv cx_ok; decide; decide)); (iterate 2 (simp (disch := omega) only [push_cast, simprocAttr, hc] <;> rfl)); (with_reducible first | exact Check_ok _ hfit); try first | rfl | (simp (disch := omega) only [push_cast, simprocAttr, hc] <;> rfl))
      | ((first | apply W.ret2 | apply W.end2); (iterate 2 (try (simp (disch := omega) only [push_cast, simprocAttr, hc] <;> rfl))))
    all_goals (show _ = _; rw [hE])
theorem TourR_ok (h : House) (rooms : List Int) (t : Int) (hfit : h.Fit) (hrm : rooms.length ≤ 1099511627776) : OKv cx 62 [.agg (eHouse h), lInt rooms, ai t] (.tup [ai (tourH h rooms t).1, ai (tourH h rooms t).2]) := by
  by_cases hc : (Check h).1 = 0
  · have hv := Check_V hc
    have hrl := hv.rooms
    by_cases h0 : rooms.length = 0
    · have h0' : (rooms.length : Int) = 0 := by omega
      have hE : tourH h rooms t = (0, 1) := by unfold tourH; rw [if_neg (by simp [hc]), if_pos h0]
      refine OKat.of_body (rs := [6, 7]) Tryd.func62 rfl (by decide +kernel) rfl (by simp [Tryd.ntmps62]) ?_
      simp only [Tryd.ntmps62]
      repeat' first
        | apply AW.seq | apply AW.region | apply AW.ret | apply AW.block | apply AW.skip | apply AW.exit | apply AW.scope | apply AW.label | apply AWL.nil | apply D.nil
        | refine W.draw cx_mixed (by decide +kernel) ?_
        | ((first | (apply W.step cx_ok; decide) | (apply D.step cx_ok; decide; decide) | (apply W.gS; rfl; decide) | (apply D.gS; rfl; decide; decide) | apply AW.cond); (simp (disch := omega) only [push_cast, simprocAttr, hc, h0'] <;> rfl); all_goals try ((with_reducible intro hI); try first | (cases hI; done) | (simp only [INTS] at hI; try first | (exfalso; omega) | (have hT : True := hI; clear hT hI))))
        | ((first | (apply W.callv cx_ok; decide) | (apply D.callv cx_ok; decide; decide)); (iterate 2 (simp (disch := omega) only [push_cast, simprocAttr, hc, h0'] <;> rfl)); (with_reducible first | exact Error_ok _ hfit); try first | rfl | (simp (disch := omega) only [push_cast, simprocAttr, hc, h0'] <;> rfl))
        | ((first | apply W.ret2 | apply W.end2); (iterate 2 (try (simp (disch := omega) only [push_cast, simprocAttr, hc, h0'] <;> rfl))))
      all_goals (show _ = _; rw [hE])
    · have h0' : ((rooms.length : Int) = 0) = False := eq_false (by omega)
      by_cases h60 : 60 < rooms.length
      · have h60' : 60 < (rooms.length : Int) := by omega
        have hE : tourH h rooms t = (0, 2) := by unfold tourH; rw [if_neg (by simp [hc]), if_neg h0, if_pos h60]
        refine OKat.of_body (rs := [6, 7]) Tryd.func62 rfl (by decide +kernel) rfl (by simp [Tryd.ntmps62]) ?_
        simp only [Tryd.ntmps62]
        repeat' first
          | apply AW.seq | apply AW.region | apply AW.ret | apply AW.block | apply AW.skip | apply AW.exit | apply AW.scope | apply AW.label | apply AWL.nil | apply D.nil
          | refine W.draw cx_mixed (by decide +kernel) ?_
          | ((first | (apply W.step cx_ok; decide) | (apply D.step cx_ok; decide; decide) | (apply W.gS; rfl; decide) | (apply D.gS; rfl; decide; decide) | apply AW.cond); (simp (disch := omega) only [push_cast, simprocAttr, hc, h0', h60'] <;> rfl); all_goals try ((with_reducible intro hI); try first | (cases hI; done) | (simp only [INTS] at hI; try first | (exfalso; omega) | (have hT : True := hI; clear hT hI))))
          | ((first | (apply W.callv cx_ok; decide) | (apply D.callv cx_ok; decide; decide)); (iterate 2 (simp (disch := omega) only [push_cast, simprocAttr, hc, h0', h60'] <;> rfl)); (with_reducible first | exact Error_ok _ hfit); try first | rfl | (simp (disch := omega) only [push_cast, simprocAttr, hc, h0', h60'] <;> rfl))
          | ((first | apply W.ret2 | apply W.end2); (iterate 2 (try (simp (disch := omega) only [push_cast, simprocAttr, hc, h0', h60'] <;> rfl))))
        all_goals (show _ = _; rw [hE])
      · have h60' : ¬ 60 < (rooms.length : Int) := by omega
        by_cases he : askedE h rooms [t] = 0
        · obtain ⟨_, hrr, htt⟩ := askedE_zero he
          have ht := htt t (by simp)
          have hE : tourH h rooms t = (tourL h (rooms.getD 0 0) rooms.tail t, 0) := by unfold tourH; rw [if_neg (by simp [hc]), if_neg h0, if_neg h60, if_neg (by simp [he])]
          have hr0 : isRoom h (rooms.getD 0 0) := hrr _ (List.mem_of_getElem? (getD_set' rooms 0 0 (by omega)))
          refine OKat.of_body (rs := [6, 7]) Tryd.func62 rfl (by decide +kernel) rfl (by simp [Tryd.ntmps62]) ?_
          simp only [Tryd.ntmps62]
          repeat' first
            | apply AW.seq | apply AW.region | apply AW.ret | apply AW.block | apply AW.skip | apply AW.exit | apply AW.scope | apply AW.label | apply AWL.nil | apply D.nil
            | refine W.draw cx_mixed (by decide +kernel) ?_
            | ((first | (apply W.step cx_ok; decide) | (apply D.step cx_ok; decide; decide) | (apply W.gS; rfl; decide) | (apply D.gS; rfl; decide; decide) | apply AW.cond); (simp (disch := omega) only [push_cast, simprocAttr, hc, h0', h60'] <;> rfl); all_goals try ((with_reducible intro hI); try first | (cases hI; done) | (simp only [INTS] at hI; try first | (exfalso; omega) | (have hT : True := hI; clear hT hI))))
            | ((first | (apply W.callv cx_ok; decide) | (apply D.callv cx_ok; decide; decide)); (iterate 2 (simp (disch := omega) only [push_cast, simprocAttr, hc, h0', h60'] <;> rfl)); (with_reducible first | exact Error_ok _ hfit); try first | rfl | (simp (disch := omega) only [push_cast, simprocAttr, hc, h0', h60'] <;> rfl))
            | ((first | apply W.ret2 | apply W.end2); (iterate 2 (try (simp (disch := omega) only [push_cast, simprocAttr, hc, h0', h60'] <;> rfl))))
          refine AW.loop (fun n s => ∃ (k : Nat) (rest : List Int), n = rest.length ∧ (rooms.drop k = rest) ∧ 1 ≤ s.nx ∧ s.tm 1 = lInt rooms ∧ s.tm 2 = ai t ∧ s.tm 3 = .ptr 0 0 0 1 ∧ s.tm 9 = ai k ∧ Pg.rowAt s.H (0) = some ({ k := 3, es := [eHouse h], ty := 26 })) (rooms.length) ⟨0, rooms, rfl, rfl, ?_, ?_, ?_, ?_, ?_, ?_⟩ ?_
          iterate 6 (first | (simp (disch := omega) only [push_cast, simprocAttr, hc, h0', h60'] <;> first | rfl | omega) | omega)
          rintro n s ⟨k, rest, hn, hp0, hnl, hS⟩
          have hZ : (0 : Nat) ≠ s.nx ∧ s.nx ≠ (0 : Nat) := by omega
          rcases rest with _ | ⟨x, rest⟩
          · have hk := drop_nil hp0
            repeat' first
              | apply AW.seq | apply AW.region | apply AW.ret | apply AW.block | apply AW.skip | apply AW.exit | apply AW.scope | apply AW.label | apply AWL.nil | apply D.nil
              | refine W.draw cx_mixed (by decide +kernel) ?_
              | ((first | (apply W.step cx_ok; decide) | (apply D.step cx_ok; decide; decide) | (apply W.gS; rfl; decide) | (apply D.gS; rfl; decide; decide) | apply AW.cond); (simp (disch := omega) only [push_cast, simprocAttr, hS, hZ, hk] <;> rfl); all_goals try ((with_reducible intro hI); try first | (cases hI; done) | (simp only [INTS] at hI; try first | (exfalso; omega) | (have hT : True := hI; clear hT hI))))
              | ((first | apply W.ret2 | apply W.end2); (iterate 2 (try (simp (disch := omega) only [push_cast, simprocAttr, hS, hZ, hk] <;> rfl))))
            refine AW.loop (fun n s => ∃ (k : Nat) (p tt : Int) (rest : List Int), n = rest.length ∧ (1 ≤ k ∧ rooms.drop k = rest) ∧ (rooms.getD (k - 1) 0 = p) ∧ (isRoom h p) ∧ (0 ≤ tt ∧ tt ≤ 1073741824) ∧ (tourL h p rest tt = tourL h (rooms.getD 0 0) rooms.tail t) ∧ 1 ≤ s.nx ∧ s.tm 1 = lInt rooms ∧ s.tm 2 = ai tt ∧ s.tm 3 = .ptr 0 0 0 1 ∧ s.tm 10 = ai k ∧ Pg.rowAt s.H (0) = some ({ k := 3, es := [eHouse h], ty := 26 })) (rooms.tail.length) ⟨1, rooms.getD 0 0, t, rooms.tail, rfl, ⟨Nat.le_refl _, List.drop_one⟩, rfl, hr0, (by omega), rfl, ?_, ?_, ?_, ?_, ?_, ?_⟩ ?_
            iterate 6 (first | (simp (disch := omega) only [push_cast, simprocAttr, hS, hZ, hc, h0', h60', hk] <;> first | rfl | omega) | omega)
            rintro n2 s2 ⟨k2, p2, tt2, rest2, hn2, hp02, hp12, hp22, hp32, hp42, hnl2, hS2⟩
            have hZ2 : (0 : Nat) ≠ s2.nx ∧ s2.nx ≠ (0 : Nat) := by omega
            rcases rest2 with _ | ⟨x2, rest2⟩
            · have hk2 := drop_nil hp02.2
              repeat' first
                | apply AW.seq | apply AW.region | apply AW.ret | apply AW.block | apply AW.skip | apply AW.exit | apply AW.scope | apply AW.label | apply AWL.nil | apply D.nil
                | refine W.draw cx_mixed (by decide +kernel) ?_
                | ((first | (apply W.step cx_ok; decide) | (apply D.step cx_ok; decide; decide) | (apply W.gS; rfl; decide) | (apply D.gS; rfl; decide; decide) | apply AW.cond); (simp (disch := omega) only [push_cast, simprocAttr, hS2, hZ2, hk2] <;> rfl); all_goals try ((with_reducible intro hI); try first | (cases hI; done) | (simp only [INTS] at hI; try first | (exfalso; omega) | (have hT : True := hI; clear hT hI))))
                | ((first | apply W.ret2 | apply W.end2); (iterate 2 (try (simp (disch := omega) only [push_cast, simprocAttr, hS2, hZ2, hk2] <;> rfl))))
              all_goals (show _ = _; rw [hE, ← hp42]; rfl)
            · obtain ⟨hk2, hg2, hd'2, hl'2, hm2, hx2⟩ := drop_cons hp02.2 eInt []
              have hxr := hrr x2 hm2
              by_cases htn : tt2 = 1073741824
              · have htn' : (tt2 = 1073741824) = True := eq_true htn
                repeat' first
                  | apply AW.seq | apply AW.region | apply AW.ret | apply AW.block | apply AW.skip | apply AW.exit | apply AW.scope | apply AW.label | apply AWL.nil | apply D.nil
                  | refine W.draw cx_mixed (by decide +kernel) ?_
                  | ((first | (apply W.step cx_ok; decide) | (apply D.step cx_ok; decide; decide) | (apply W.gS; rfl; decide) | (apply D.gS; rfl; decide; decide) | apply AW.cond); (simp (disch := omega) only [push_cast, simprocAttr, hS2, hZ2, hk2, htn'] <;> rfl); all_goals try ((with_reducible intro hI); try first | (cases hI; done) | (simp only [INTS] at hI; try first | (exfalso; omega) | (have hT : True := hI; clear hT hI))))
                  | ((first | apply W.ret2 | apply W.end2); (iterate 2 (try (simp (disch := omega) only [push_cast, simprocAttr, hS2, hZ2, hk2, htn'] <;> rfl))))
                all_goals (show _ = _; rw [hE, ← hp42, tourL, if_pos htn])
              · have htn' : (tt2 = 1073741824) = False := eq_false htn
                have htb : 0 ≤ tt2 ∧ tt2 ≤ 1073741823 := by have := hp32; omega
                have hk1 := hp02.1
                have hkm0 : (0 : Int) ≤ (k2 : Int) - 1 := by omega
                have hkm1 : (k2 : Int) - 1 < (rooms.length : Int) := by omega
                have hkm2 : ((k2 : Int) - 1).toNat < rooms.length := by omega
                have hgp : rooms.getD ((k2 : Int) - 1).toNat 0 = p2 := by rw [← hp12]; congr 1; omega
                have hpr := hp22
                unfold isRoom at hpr hxr
                obtain ⟨X, hX⟩ : ∃ y, arrR h p2.toNat tt2 = y := ⟨_, rfl⟩
                have hXl : X.length = h.rooms.length := by rw [← hX]; exact (arrR_is hv (a := p2.toNat) (by omega) (t := tt2) (by omega)).1
                have hXb := arr_at hv (p := p2) (b := x2) hpr hxr (t := tt2) (by omega)
                rw [hX] at hXb
                have hao := Arrivals_ok h p2 tt2 hfit hv hpr htb
                rw [hX] at hao
                have c1 := hxr.1
                have c2 : x2 < (X.length : Int) := by omega
                have c3 : x2.toNat < X.length := by omega
                have c4 : k2 < rooms.length := by omega
                repeat' first
                  | apply AW.seq | apply AW.region | apply AW.ret | apply AW.block | apply AW.skip | apply AW.exit | apply AW.scope | apply AW.label | apply AWL.nil | apply D.nil
                  | refine W.draw cx_mixed (by decide +kernel) ?_
                  | ((first | (apply W.step cx_ok; decide) | (apply D.step cx_ok; decide; decide) | (apply W.gS; rfl; decide) | (apply D.gS; rfl; decide; decide) | apply AW.cond); (simp (disch := omega) only [push_cast, simprocAttr, hS2, hZ2, hk2, hg2, htn', hkm0, hkm1, hkm2, hgp, c1, c2, c3] <;> rfl); all_goals try ((with_reducible intro hI); try first | (cases hI; done) | (simp only [INTS] at hI; try first | (exfalso; omega) | (have hT : True := hI; clear hT hI))))
                  | ((first | (apply W.callv cx_ok; decide) | (apply D.callv cx_ok; decide; decide)); (iterate 2 (simp (disch := omega) only [push_cast, simprocAttr, hS2, hZ2, hk2, hg2, htn', hkm0, hkm1, hkm2, hgp, c1, c2, c3] <;> rfl)); (with_reducible first | exact hao); try first | rfl | (simp (disch := omega) only [push_cast, simprocAttr, hS2, hZ2, hk2, hg2, htn', hkm0, hkm1, hkm2, hgp, c1, c2, c3] <;> rfl))
                  | ((first | apply W.ret2 | apply W.end2); (iterate 2 (try (simp (disch := omega) only [push_cast, simprocAttr, hS2, hZ2, hk2, hg2, htn', hkm0, hkm1, hkm2, hgp, c1, c2, c3] <;> rfl))))
                all_goals
                  (rw [tourL, if_neg htn, hX] at hp42
                   (refine ⟨rest2.length, ?_, k2 + 1, x2, X.getD x2.toNat 0, rest2, rfl, ⟨(by omega), hd'2⟩, (by rw [Nat.add_sub_cancel]; rw [List.getD_eq_getElem?_getD, List.getElem?_eq_getElem c4]; have hq := hx2; rw [List.getElem?_map, List.getElem?_eq_getElem c4] at hq; simpa using hq), (by unfold isRoom; omega), (by omega), hp42, ?_, ?_, ?_, ?_, ?_, ?_⟩; ((simp only [List.length_cons] at *; omega)); all_goals first | (simp (disch := omega) only [push_cast, simprocAttr, hS2, hZ2, hg2, hk2, hkm0, hkm1, hkm2, hgp, c1, c2, c3] <;> first | rfl | omega) | omega))
          · obtain ⟨hk, hg, hd', hl', hm, hx⟩ := drop_cons hp0 eInt []
            have hxr := hrr x hm
            unfold isRoom at hxr
            have hro : roomE h x t = 0 := by unfold roomE; rw [if_neg (by simp [hc]), if_neg (by omega)]
            repeat' first
              | apply AW.seq | apply AW.region | apply AW.ret | apply AW.block | apply AW.skip | apply AW.exit | apply AW.scope | apply AW.label | apply AWL.nil | apply D.nil
              | refine W.draw cx_mixed (by decide +kernel) ?_
              | ((first | (apply W.step cx_ok; decide) | (apply D.step cx_ok; decide; decide) | (apply W.gS; rfl; decide) | (apply D.gS; rfl; decide; decide) | apply AW.cond); (simp (disch := omega) only [push_cast, simprocAttr, hS, hZ, hk, hg, hro] <;> rfl); all_goals try ((with_reducible intro hI); try first | (cases hI; done) | (simp only [INTS] at hI; try first | (exfalso; omega) | (have hT : True := hI; clear hT hI))))
              | ((first | (apply W.callv cx_ok; decide) | (apply D.callv cx_ok; decide; decide)); (iterate 2 (simp (disch := omega) only [push_cast, simprocAttr, hS, hZ, hk, hg, hro] <;> rfl)); (with_reducible first | exact room_ok _ _ _ hfit); try first | rfl | (simp (disch := omega) only [push_cast, simprocAttr, hS, hZ, hk, hg, hro] <;> rfl))
              | ((first | apply W.ret2 | apply W.end2); (iterate 2 (try (simp (disch := omega) only [push_cast, simprocAttr, hS, hZ, hk, hg, hro] <;> rfl))))
            all_goals (refine ⟨rest.length, ?_, k + 1, rest, rfl, hd', ?_, ?_, ?_, ?_, ?_, ?_⟩; ((simp only [List.length_cons] at *; omega)); all_goals first | (simp (disch := omega) only [push_cast, simprocAttr, hS, hZ, hg, hk, hro] <;> first | rfl | omega) | omega)
        · have he1 : askedE h rooms [t] = 1 := asked_one hc he
          have hE : tourH h rooms t = (0, 1) := by unfold tourH; rw [if_neg (by simp [hc]), if_neg h0, if_neg h60, if_pos he, he1]
          refine OKat.of_body (rs := [6, 7]) Tryd.func62 rfl (by decide +kernel) rfl (by simp [Tryd.ntmps62]) ?_
          simp only [Tryd.ntmps62]
          repeat' first
            | apply AW.seq | apply AW.region | apply AW.ret | apply AW.block | apply AW.skip | apply AW.exit | apply AW.scope | apply AW.label | apply AWL.nil | apply D.nil
            | refine W.draw cx_mixed (by decide +kernel) ?_
            | ((first | (apply W.step cx_ok; decide) | (apply D.step cx_ok; decide; decide) | (apply W.gS; rfl; decide) | (apply D.gS; rfl; decide; decide) | apply AW.cond); (simp (disch := omega) only [push_cast, simprocAttr, hc, h0', h60'] <;> rfl); all_goals try ((with_reducible intro hI); try first | (cases hI; done) | (simp only [INTS] at hI; try first | (exfalso; omega) | (have hT : True := hI; clear hT hI))))
            | ((first | (apply W.callv cx_ok; decide) | (apply D.callv cx_ok; decide; decide)); (iterate 2 (simp (disch := omega) only [push_cast, simprocAttr, hc, h0', h60'] <;> rfl)); (with_reducible first | exact Error_ok _ hfit); try first | rfl | (simp (disch := omega) only [push_cast, simprocAttr, hc, h0', h60'] <;> rfl))
            | ((first | apply W.ret2 | apply W.end2); (iterate 2 (try (simp (disch := omega) only [push_cast, simprocAttr, hc, h0', h60'] <;> rfl))))
          refine AW.loop (fun n s => ∃ (k : Nat) (rest : List Int), n = rest.length ∧ (rooms.drop k = rest) ∧ (∃ r ∈ rest, roomE h r t ≠ 0) ∧ 1 ≤ s.nx ∧ s.tm 1 = lInt rooms ∧ s.tm 2 = ai t ∧ s.tm 3 = .ptr 0 0 0 1 ∧ s.tm 9 = ai k ∧ Pg.rowAt s.H (0) = some ({ k := 3, es := [eHouse h], ty := 26 })) (rooms.length) ⟨0, rooms, rfl, rfl, (asked_bad hc (by omega) he), ?_, ?_, ?_, ?_, ?_, ?_⟩ ?_
          iterate 6 (first | (simp (disch := omega) only [push_cast, simprocAttr, hc, h0', h60'] <;> first | rfl | omega) | omega)
          rintro n s ⟨k, rest, hn, hp0, hp1, hnl, hS⟩
          have hZ : (0 : Nat) ≠ s.nx ∧ s.nx ≠ (0 : Nat) := by omega
          rcases rest with _ | ⟨x, rest⟩
          · obtain ⟨r, hr, _⟩ := hp1
            cases hr
          · obtain ⟨hk, hg, hd', hl', hm, hx⟩ := drop_cons hp0 eInt []
            by_cases hro : roomE h x t = 0
            · have hrest : ∃ r ∈ rest, roomE h r t ≠ 0 := by
                obtain ⟨r, hr, hq⟩ := hp1
                rcases List.mem_cons.1 hr with rfl | hr
                · exact absurd hro hq
                · exact ⟨r, hr, hq⟩
              repeat' first
                | apply AW.seq | apply AW.region | apply AW.ret | apply AW.block | apply AW.skip | apply AW.exit | apply AW.scope | apply AW.label | apply AWL.nil | apply D.nil
                | refine W.draw cx_mixed (by decide +kernel) ?_
                | ((first | (apply W.step cx_ok; decide) | (apply D.step cx_ok; decide; decide) | (apply W.gS; rfl; decide) | (apply D.gS; rfl; decide; decide) | apply AW.cond); (simp (disch := omega) only [push_cast, simprocAttr, hS, hZ, hk, hg, hro] <;> rfl); all_goals try ((with_reducible intro hI); try first | (cases hI; done) | (simp only [INTS] at hI; try first | (exfalso; omega) | (have hT : True := hI; clear hT hI))))
                | ((first | (apply W.callv cx_ok; decide) | (apply D.callv cx_ok; decide; decide)); (iterate 2 (simp (disch := omega) only [push_cast, simprocAttr, hS, hZ, hk, hg, hro] <;> rfl)); (with_reducible first | exact room_ok _ _ _ hfit); try first | rfl | (simp (disch := omega) only [push_cast, simprocAttr, hS, hZ, hk, hg, hro] <;> rfl))
                | ((first | apply W.ret2 | apply W.end2); (iterate 2 (try (simp (disch := omega) only [push_cast, simprocAttr, hS, hZ, hk, hg, hro] <;> rfl))))
              all_goals (refine ⟨rest.length, ?_, k + 1, rest, rfl, hd', hrest, ?_, ?_, ?_, ?_, ?_, ?_⟩; ((simp only [List.length_cons] at *; omega)); all_goals first | (simp (disch := omega) only [push_cast, simprocAttr, hS, hZ, hg, hk, hro] <;> first | rfl | omega) | omega)
            · have hro1 : roomE h x t = 1 := room_one hc hro
              repeat' first
                | apply AW.seq | apply AW.region | apply AW.ret | apply AW.block | apply AW.skip | apply AW.exit | apply AW.scope | apply AW.label | apply AWL.nil | apply D.nil
                | refine W.draw cx_mixed (by decide +kernel) ?_
                | ((first | (apply W.step cx_ok; decide) | (apply D.step cx_ok; decide; decide) | (apply W.gS; rfl; decide) | (apply D.gS; rfl; decide; decide) | apply AW.cond); (simp (disch := omega) only [push_cast, simprocAttr, hS, hZ, hk, hg, hro1] <;> rfl); all_goals try ((with_reducible intro hI); try first | (cases hI; done) | (simp only [INTS] at hI; try first | (exfalso; omega) | (have hT : True := hI; clear hT hI))))
                | ((first | (apply W.callv cx_ok; decide) | (apply D.callv cx_ok; decide; decide)); (iterate 2 (simp (disch := omega) only [push_cast, simprocAttr, hS, hZ, hk, hg, hro1] <;> rfl)); (with_reducible first | exact room_ok _ _ _ hfit); try first | rfl | (simp (disch := omega) only [push_cast, simprocAttr, hS, hZ, hk, hg, hro1] <;> rfl))
                | ((first | apply W.ret2 | apply W.end2); (iterate 2 (try (simp (disch := omega) only [push_cast, simprocAttr, hS, hZ, hk, hg, hro1] <;> rfl))))
              all_goals (show _ = _; rw [hE])
  · have hE : tourH h rooms t = (0, (Check h).1) := if_pos hc
    refine OKat.of_body (rs := [6, 7]) Tryd.func62 rfl (by decide +kernel) rfl (by simp [Tryd.ntmps62]) ?_
    simp only [Tryd.ntmps62]
    repeat' first
      | apply AW.seq | apply AW.region | apply AW.ret | apply AW.block | apply AW.skip | apply AW.exit | apply AW.scope | apply AW.label | apply AWL.nil | apply D.nil
      | refine W.draw cx_mixed (by decide +kernel) ?_
      | ((first | (apply W.step cx_ok; decide) | (apply D.step cx_ok; decide; decide) | (apply W.gS; rfl; decide) | (apply D.gS; rfl; decide; decide) | apply AW.cond); (simp (disch := omega) only [push_cast, simprocAttr, hc] <;> rfl); all_goals try ((with_reducible intro hI); try first | (cases hI; done) | (simp only [INTS] at hI; try first | (exfalso; omega) | (have hT : True := hI; clear hT hI))))
      | ((first | (apply W.callv cx_ok; decide) | (apply D.callv cx_ok; decide; decide)); (iterate 2 (simp (disch := omega) only [push_cast, simprocAttr, hc] <;> rfl)); (with_reducible first | exact Error_ok _ hfit); try first | rfl | (simp (disch := omega) only [push_cast, simprocAttr, hc] <;> rfl))
      | ((first | apply W.ret2 | apply W.end2); (iterate 2 (try (simp (disch := omega) only [push_cast, simprocAttr, hc] <;> rfl))))
    all_goals (show _ = _; rw [hE])

end Go.Proofs.Hs
