/-
  Contracts of functions, proved by going through their code. No conditions.
-/
import Derived.Test.YtofdhddbfjfkcaaDoorHc
import Derived.Test.YtofdhddbfjfkcaaDoorHf
import Derived.Test.YtofdhddbfjfkcaaDoorVc
import Derived.Test.YtofdhddbfjfkcaaDoorVj
set_option maxHeartbeats 8000000
set_option linter.unusedSimpArgs false
set_option linter.unusedVariables false
set_option maxRecDepth 10000
namespace Go.Proofs.Hs
open Go Go.Pg Go.Proofs

theorem twoE_zero (h : House) (a t b : Int) : twoE h a t b 0 = askedE h [a, b] [t] := by
  rw [twoE_eq]
  unfold askedE
  have : timeB 0 = true := by decide
  simp only [List.all_cons, List.all_nil, this, Bool.and_true]
theorem law12_ok (h : House) (a t to0 : Int) (hn : ∀ r ∈ h.rooms, r.name.size ≤ 9223372036854775807) : OKv cx 12 [.agg (eHouse h), ai a, ai t, ai to0] (ab true) := by
  by_cases hf : few h = true
  · have hfit := few_fit hf hn
    have hrl := hfit.rooms
    have h2 := twoE_zero h a t to0
    by_cases he : askedE h [a, to0] [t] = 0
    · rw [he] at h2
      obtain ⟨hc, hrr, htt⟩ := askedE_zero he
      have hra := hrr a (by simp)
      have hrb := hrr to0 (by simp)
      have ht := htt t (by simp)
      unfold isRoom at hra hrb
      have hv := Check_V hc
      have hE : routeH h a t to0 = if (arrH h a.toNat t).1.getD to0.toNat 0 = 1073741824 then ([], 5) else ((routeL (arrH h a.toNat t).1 (arrH h a.toNat t).2 a (rk (arrH h a.toNat t).1 ((arrH h a.toNat t).1.getD to0.toNat 0) + 1) to0).reverse, 0) := if_neg (by simp [he])
      have hC : Came h a.toNat t (arrH h a.toNat t).1 (arrH h a.toNat t).2 := came hv (by omega) ht
      have hAR := arrH_eq hv hra ht
      obtain ⟨R, hR⟩ : ∃ x, arrR h a.toNat t = x := ⟨_, rfl⟩
      obtain ⟨B, hB⟩ : ∃ x, (arrH h a.toNat t).2 = x := ⟨_, rfl⟩
      rw [hR] at hAR
      rw [hAR, hB] at hE hC
      have hRl := hC.len
      have hb1 := hrb.1
      have hb2 : to0 < (R.length : Int) := by omega
      have hb3 : to0.toNat < R.length := by omega
      have hb4 := hrb.2
      have hao := Arrivals_ok h a t hfit hv hra ht
      rw [hR] at hao
      by_cases hnv : R.getD to0.toNat 0 = 1073741824
      · rw [if_pos hnv] at hE
        refine OKat.of_body (rs := [8]) Tryd.func12 rfl (by decide +kernel) rfl (by simp [Tryd.ntmps12]) ?_
        simp only [Tryd.ntmps12]
        repeat' first
          | apply AW.seq | apply AW.region | apply AW.ret | apply AW.block | apply AW.skip | apply AW.exit | apply AW.scope | apply AW.label | apply AWL.nil
          | ((first | (apply W.step cx_ok; decide) | apply W.store cx_ok | (apply W.gS; rfl; decide) | apply AW.cond); (simp (disch := omega) only [push_cast, simprocAttr, hf, hE, h2, hb1, hb2, hb3, hb4, hnv] <;> rfl); all_goals try ((with_reducible intro hI); try first | (cases hI; done) | (simp only [INTS] at hI; try first | (exfalso; omega) | (have hT : True := hI; clear hT hI))))
          | ((apply W.callv cx_ok; decide); (iterate 2 (simp (disch := omega) only [push_cast, simprocAttr, hf, hE, h2, hb1, hb2, hb3, hb4, hnv] <;> rfl)); (with_reducible first | exact few_ok _ | exact sanity_ok | exact Route_ok _ _ _ _ hfit | exact Two_ok _ _ _ _ _ hfit | exact hao); try first | rfl | (simp (disch := omega) only [push_cast, simprocAttr, hf, hE, h2, hb1, hb2, hb3, hb4, hnv] <;> rfl))
          | ((first | apply W.ret1 | apply W.end1); (iterate 2 (try (simp (disch := omega) only [push_cast, simprocAttr, hf, hE, h2, hb1, hb2, hb3, hb4, hnv] <;> rfl))))
        all_goals (show _ = _; first | rfl | (simp_all; done))
      · rw [if_neg hnv] at hE
        have hlt0 : R.getD to0.toNat 0 < 1073741824 := by have := (hC.bound to0.toNat (by omega)).2; omega
        obtain ⟨hw, hwl⟩ := route_walk hc hra ht hC (rk R (R.getD to0.toNat 0) + 1) to0 hrb hlt0 (Nat.lt_succ_self _)
        have hrk := rk_le R (R.getD to0.toNat 0)
        have hrl := hv.rooms
        obtain ⟨L, hL⟩ : ∃ x, (routeL R B a (rk R (R.getD to0.toNat 0) + 1) to0).reverse = x := ⟨_, rfl⟩
        have hLl : L.length ≤ 60 := by rw [← hL, List.length_reverse]; omega
        rw [hL] at hE hw
        have hro : roomE h a t = 0 := by unfold roomE; rw [if_neg (by simp [hc]), if_neg (by omega)]
        have hW : WalkR h a t L = (to0, R.getD to0.toNat 0, 0) := by unfold WalkR; rw [if_neg (by simp [hc]), if_neg (by omega), if_neg (by omega)]; exact hw
        have hLm : L.length ≤ 1099511627776 := by omega
        refine OKat.of_body (rs := [8]) Tryd.func12 rfl (by decide +kernel) rfl (by simp [Tryd.ntmps12]) ?_
        simp only [Tryd.ntmps12]
        repeat' first
          | apply AW.seq | apply AW.region | apply AW.ret | apply AW.block | apply AW.skip | apply AW.exit | apply AW.scope | apply AW.label | apply AWL.nil
          | ((first | (apply W.step cx_ok; decide) | apply W.store cx_ok | (apply W.gS; rfl; decide) | apply AW.cond); (simp (disch := omega) only [push_cast, simprocAttr, hf, hE, h2, hb1, hb2, hb3, hb4, hnv, hW] <;> rfl); all_goals try ((with_reducible intro hI); try first | (cases hI; done) | (simp only [INTS] at hI; try first | (exfalso; omega) | (have hT : True := hI; clear hT hI))))
          | ((apply W.callv cx_ok; decide); (iterate 2 (simp (disch := omega) only [push_cast, simprocAttr, hf, hE, h2, hb1, hb2, hb3, hb4, hnv, hW] <;> rfl)); (with_reducible first | exact few_ok _ | exact sanity_ok | exact Route_ok _ _ _ _ hfit | exact Two_ok _ _ _ _ _ hfit | exact hao | exact WalkR_ok _ _ _ _ hfit hLm); try first | rfl | (simp (disch := omega) only [push_cast, simprocAttr, hf, hE, h2, hb1, hb2, hb3, hb4, hnv, hW] <;> rfl))
          | ((first | apply W.ret1 | apply W.end1); (iterate 2 (try (simp (disch := omega) only [push_cast, simprocAttr, hf, hE, h2, hb1, hb2, hb3, hb4, hnv, hW] <;> rfl))))
        all_goals (show _ = _; first | rfl | (simp_all; done))
    · rw [← h2] at he
      have hE : routeH h a t to0 = ([], twoE h a t to0 0) := by rw [h2]; exact if_pos (by rw [← h2]; exact he)
      refine OKat.of_body (rs := [8]) Tryd.func12 rfl (by decide +kernel) rfl (by simp [Tryd.ntmps12]) ?_
      simp only [Tryd.ntmps12]
      repeat' first
        | apply AW.seq | apply AW.region | apply AW.ret | apply AW.block | apply AW.skip | apply AW.exit | apply AW.scope | apply AW.label | apply AWL.nil
        | ((first | (apply W.step cx_ok; decide) | apply W.store cx_ok | (apply W.gS; rfl; decide) | apply AW.cond); (simp (disch := omega) only [push_cast, simprocAttr, hf, hE, he] <;> rfl); all_goals try ((with_reducible intro hI); try first | (cases hI; done) | (simp only [INTS] at hI; try first | (exfalso; omega) | (have hT : True := hI; clear hT hI))))
        | ((apply W.callv cx_ok; decide); (iterate 2 (simp (disch := omega) only [push_cast, simprocAttr, hf, hE, he] <;> rfl)); (with_reducible first | exact few_ok _ | exact sanity_ok | exact Route_ok _ _ _ _ hfit | exact Two_ok _ _ _ _ _ hfit); try first | rfl | (simp (disch := omega) only [push_cast, simprocAttr, hf, hE, he] <;> rfl))
        | ((first | apply W.ret1 | apply W.end1); (iterate 2 (try (simp (disch := omega) only [push_cast, simprocAttr, hf, hE, he] <;> rfl))))
      all_goals (show _ = _; first | rfl | (simp_all; done))
  · have hf' : few h = false := by simpa using hf
    refine OKat.of_body (rs := [8]) Tryd.func12 rfl (by decide +kernel) rfl (by simp [Tryd.ntmps12]) ?_
    simp only [Tryd.ntmps12]
    repeat' first
      | apply AW.seq | apply AW.region | apply AW.ret | apply AW.block | apply AW.skip | apply AW.exit | apply AW.scope | apply AW.label | apply AWL.nil
      | ((first | (apply W.step cx_ok; decide) | apply W.store cx_ok | (apply W.gS; rfl; decide) | apply AW.cond); (simp (disch := omega) only [push_cast, simprocAttr, hf'] <;> rfl); all_goals try ((with_reducible intro hI); try first | (cases hI; done) | (simp only [INTS] at hI; try first | (exfalso; omega) | (have hT : True := hI; clear hT hI))))
      | ((apply W.callv cx_ok; decide); (iterate 2 (simp (disch := omega) only [push_cast, simprocAttr, hf'] <;> rfl)); (with_reducible first | exact few_ok _ | exact sanity_ok); try first | rfl | (simp (disch := omega) only [push_cast, simprocAttr, hf'] <;> rfl))
      | ((first | apply W.ret1 | apply W.end1); (iterate 2 (try (simp (disch := omega) only [push_cast, simprocAttr, hf'] <;> rfl))))
    all_goals (show _ = _; first | rfl | (simp_all; done))

end Go.Proofs.Hs
