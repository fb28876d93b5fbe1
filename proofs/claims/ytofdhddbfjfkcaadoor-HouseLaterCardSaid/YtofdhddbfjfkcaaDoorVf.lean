/-
  Contracts of functions, proved by going through their code. No conditions.
-/
import Derived.Test.YtofdhddbfjfkcaaDoorHc
import Derived.Test.YtofdhddbfjfkcaaDoorHe
import Derived.Test.YtofdhddbfjfkcaaDoorVa
set_option maxHeartbeats 8000000
set_option linter.unusedSimpArgs false
set_option linter.unusedVariables false
set_option maxRecDepth 10000
namespace Go.Proofs.Hs
open Go Go.Pg Go.Proofs

def enterH (h : House) (w : Int) (back : Bool) (t : Int) : Int × Int := if (gateAsked h w back t).2 ≠ 0 then (0, (gateAsked h w back t).2) else (enter h (gateAsked h w back t).1 t, 0)
def departH (h : House) (w : Int) (back : Bool) (t : Int) : Int × Int := if (gateAsked h w back t).2 ≠ 0 then (0, (gateAsked h w back t).2) else (depart h (gateAsked h w back t).1 t, 0)
theorem gateAsked_ok0 {h : House} {w : Int} {back : Bool} {t : Int} (he : (gateAsked h w back t).2 = 0) : h.V ∧ (gateAsked h w back t).1.OK h ∧ (0 ≤ t ∧ t ≤ 1073741823) := by
  rw [gateAsked_eq] at he ⊢
  obtain ⟨h1, h2, h3⟩ := askedR_ok he
  exact ⟨Check_V h1, h3, h2⟩
theorem gateR_ok (h : House) (way : Int) (back : Bool) (t : Int) (hfit : h.Fit) : OKv cx 95 [.agg (eHouse h), ai way, ab back, ai t] (.tup [.agg (eGateR (gateAsked h way back t).1), ai (gateAsked h way back t).2]) := by
  rw [gateAsked_eq]; exact askedR_cx h way back t hfit
theorem EnterG_ok (h : House) (w : Int) (back : Bool) (t : Int) (hfit : h.Fit) : OKv cx 41 [.agg (eHouse h), ai w, ab back, ai t] (.tup [ai (enterH h w back t).1, ai (enterH h w back t).2]) := by
  by_cases he : (gateAsked h w back t).2 = 0
  · obtain ⟨hv, hgo, ht1, ht2⟩ := gateAsked_ok0 he
    have hE : enterH h w back t = (enter h (gateAsked h w back t).1 t, 0) := if_neg (by simp [he])
    refine OKat.of_body (rs := [8, 9]) Tryd.func41 rfl (by decide +kernel) rfl (by simp [Tryd.ntmps41]) ?_
    simp only [Tryd.ntmps41]
    repeat' first
      | apply AW.seq | apply AW.region | apply AW.ret | apply AW.block | apply AW.skip | apply AW.exit | apply AW.scope | apply AW.label | apply AWL.nil
      | ((first | (apply W.step cx_ok; decide) | apply W.store cx_ok | apply AW.cond); (simp (disch := omega) only [push_cast, simprocAttr, he] <;> rfl); all_goals try ((with_reducible intro hI); try first | (cases hI; done) | (simp only [INTS] at hI; try first | (exfalso; omega) | (have hT : True := hI; clear hT hI))))
      | ((apply W.callv cx_ok; decide); (iterate 2 (simp (disch := omega) only [push_cast, simprocAttr, he] <;> rfl)); (with_reducible first | exact gateAsked_ok _ _ _ _ hfit | exact enter_ok _ _ _ hv hgo (by omega) (by omega)); try first | rfl | (simp (disch := omega) only [push_cast, simprocAttr, he] <;> rfl))
      | ((first | apply W.ret2 | apply W.end2); (iterate 2 (try (simp (disch := omega) only [push_cast, simprocAttr, he] <;> rfl))))
    all_goals (show _ = _; rw [hE])
  · have hE : enterH h w back t = (0, (gateAsked h w back t).2) := if_pos he
    refine OKat.of_body (rs := [8, 9]) Tryd.func41 rfl (by decide +kernel) rfl (by simp [Tryd.ntmps41]) ?_
    simp only [Tryd.ntmps41]
    repeat' first
      | apply AW.seq | apply AW.region | apply AW.ret | apply AW.block | apply AW.skip | apply AW.exit | apply AW.scope | apply AW.label | apply AWL.nil
      | ((first | (apply W.step cx_ok; decide) | apply W.store cx_ok | apply AW.cond); (simp (disch := omega) only [push_cast, simprocAttr, he] <;> rfl); all_goals try ((with_reducible intro hI); try first | (cases hI; done) | (simp only [INTS] at hI; try first | (exfalso; omega) | (have hT : True := hI; clear hT hI))))
      | ((apply W.callv cx_ok; decide); (iterate 2 (simp (disch := omega) only [push_cast, simprocAttr, he] <;> rfl)); (with_reducible first | exact gateAsked_ok _ _ _ _ hfit); try first | rfl | (simp (disch := omega) only [push_cast, simprocAttr, he] <;> rfl))
      | ((first | apply W.ret2 | apply W.end2); (iterate 2 (try (simp (disch := omega) only [push_cast, simprocAttr, he] <;> rfl))))
    all_goals (show _ = _; rw [hE])
theorem EnterGR_ok (h : House) (w : Int) (back : Bool) (t : Int) (hfit : h.Fit) : OKv cx 42 [.agg (eHouse h), ai w, ab back, ai t] (.tup [ai (enterH h w back t).1, ai (enterH h w back t).2]) := by
  by_cases he : (gateAsked h w back t).2 = 0
  · obtain ⟨hv, hgo, ht1, ht2⟩ := gateAsked_ok0 he
    have hE : enterH h w back t = (enter h (gateAsked h w back t).1 t, 0) := if_neg (by simp [he])
    refine OKat.of_body (rs := [8, 9]) Tryd.func42 rfl (by decide +kernel) rfl (by simp [Tryd.ntmps42]) ?_
    simp only [Tryd.ntmps42]
    repeat' first
      | apply AW.seq | apply AW.region | apply AW.ret | apply AW.block | apply AW.skip | apply AW.exit | apply AW.scope | apply AW.label | apply AWL.nil
      | ((first | (apply W.step cx_ok; decide) | apply W.store cx_ok | apply AW.cond); (simp (disch := omega) only [push_cast, simprocAttr, he] <;> rfl); all_goals try ((with_reducible intro hI); try first | (cases hI; done) | (simp only [INTS] at hI; try first | (exfalso; omega) | (have hT : True := hI; clear hT hI))))
      | ((apply W.callv cx_ok; decide); (iterate 2 (simp (disch := omega) only [push_cast, simprocAttr, he] <;> rfl)); (with_reducible first | exact gateR_ok _ _ _ _ hfit | exact enterR_ok _ _ _ hv hgo (by omega) (by omega)); try first | rfl | (simp (disch := omega) only [push_cast, simprocAttr, he] <;> rfl))
      | ((first | apply W.ret2 | apply W.end2); (iterate 2 (try (simp (disch := omega) only [push_cast, simprocAttr, he] <;> rfl))))
    all_goals (show _ = _; rw [hE])
  · have hE : enterH h w back t = (0, (gateAsked h w back t).2) := if_pos he
    refine OKat.of_body (rs := [8, 9]) Tryd.func42 rfl (by decide +kernel) rfl (by simp [Tryd.ntmps42]) ?_
    simp only [Tryd.ntmps42]
    repeat' first
      | apply AW.seq | apply AW.region | apply AW.ret | apply AW.block | apply AW.skip | apply AW.exit | apply AW.scope | apply AW.label | apply AWL.nil
      | ((first | (apply W.step cx_ok; decide) | apply W.store cx_ok | apply AW.cond); (simp (disch := omega) only [push_cast, simprocAttr, he] <;> rfl); all_goals try ((with_reducible intro hI); try first | (cases hI; done) | (simp only [INTS] at hI; try first | (exfalso; omega) | (have hT : True := hI; clear hT hI))))
      | ((apply W.callv cx_ok; decide); (iterate 2 (simp (disch := omega) only [push_cast, simprocAttr, he] <;> rfl)); (with_reducible first | exact gateR_ok _ _ _ _ hfit); try first | rfl | (simp (disch := omega) only [push_cast, simprocAttr, he] <;> rfl))
      | ((first | apply W.ret2 | apply W.end2); (iterate 2 (try (simp (disch := omega) only [push_cast, simprocAttr, he] <;> rfl))))
    all_goals (show _ = _; rw [hE])
theorem DepartG_ok (h : House) (w : Int) (back : Bool) (t : Int) (hfit : h.Fit) : OKv cx 43 [.agg (eHouse h), ai w, ab back, ai t] (.tup [ai (departH h w back t).1, ai (departH h w back t).2]) := by
  by_cases he : (gateAsked h w back t).2 = 0
  · obtain ⟨hv, hgo, ht1, ht2⟩ := gateAsked_ok0 he
    have hE : departH h w back t = (depart h (gateAsked h w back t).1 t, 0) := if_neg (by simp [he])
    refine OKat.of_body (rs := [8, 9]) Tryd.func43 rfl (by decide +kernel) rfl (by simp [Tryd.ntmps43]) ?_
    simp only [Tryd.ntmps43]
    repeat' first
      | apply AW.seq | apply AW.region | apply AW.ret | apply AW.block | apply AW.skip | apply AW.exit | apply AW.scope | apply AW.label | apply AWL.nil
      | ((first | (apply W.step cx_ok; decide) | apply W.store cx_ok | apply AW.cond); (simp (disch := omega) only [push_cast, simprocAttr, he] <;> rfl); all_goals try ((with_reducible intro hI); try first | (cases hI; done) | (simp only [INTS] at hI; try first | (exfalso; omega) | (have hT : True := hI; clear hT hI))))
      | ((apply W.callv cx_ok; decide); (iterate 2 (simp (disch := omega) only [push_cast, simprocAttr, he] <;> rfl)); (with_reducible first | exact gateAsked_ok _ _ _ _ hfit | exact depart_ok _ _ _ hv hgo (by omega) (by omega)); try first | rfl | (simp (disch := omega) only [push_cast, simprocAttr, he] <;> rfl))
      | ((first | apply W.ret2 | apply W.end2); (iterate 2 (try (simp (disch := omega) only [push_cast, simprocAttr, he] <;> rfl))))
    all_goals (show _ = _; rw [hE])
  · have hE : departH h w back t = (0, (gateAsked h w back t).2) := if_pos he
    refine OKat.of_body (rs := [8, 9]) Tryd.func43 rfl (by decide +kernel) rfl (by simp [Tryd.ntmps43]) ?_
    simp only [Tryd.ntmps43]
    repeat' first
      | apply AW.seq | apply AW.region | apply AW.ret | apply AW.block | apply AW.skip | apply AW.exit | apply AW.scope | apply AW.label | apply AWL.nil
      | ((first | (apply W.step cx_ok; decide) | apply W.store cx_ok | apply AW.cond); (simp (disch := omega) only [push_cast, simprocAttr, he] <;> rfl); all_goals try ((with_reducible intro hI); try first | (cases hI; done) | (simp only [INTS] at hI; try first | (exfalso; omega) | (have hT : True := hI; clear hT hI))))
      | ((apply W.callv cx_ok; decide); (iterate 2 (simp (disch := omega) only [push_cast, simprocAttr, he] <;> rfl)); (with_reducible first | exact gateAsked_ok _ _ _ _ hfit); try first | rfl | (simp (disch := omega) only [push_cast, simprocAttr, he] <;> rfl))
      | ((first | apply W.ret2 | apply W.end2); (iterate 2 (try (simp (disch := omega) only [push_cast, simprocAttr, he] <;> rfl))))
    all_goals (show _ = _; rw [hE])
theorem DepartGR_ok (h : House) (w : Int) (back : Bool) (t : Int) (hfit : h.Fit) : OKv cx 44 [.agg (eHouse h), ai w, ab back, ai t] (.tup [ai (departH h w back t).1, ai (departH h w back t).2]) := by
  by_cases he : (gateAsked h w back t).2 = 0
  · obtain ⟨hv, hgo, ht1, ht2⟩ := gateAsked_ok0 he
    have hE : departH h w back t = (depart h (gateAsked h w back t).1 t, 0) := if_neg (by simp [he])
    refine OKat.of_body (rs := [8, 9]) Tryd.func44 rfl (by decide +kernel) rfl (by simp [Tryd.ntmps44]) ?_
    simp only [Tryd.ntmps44]
    repeat' first
      | apply AW.seq | apply AW.region | apply AW.ret | apply AW.block | apply AW.skip | apply AW.exit | apply AW.scope | apply AW.label | apply AWL.nil
      | ((first | (apply W.step cx_ok; decide) | apply W.store cx_ok | apply AW.cond); (simp (disch := omega) only [push_cast, simprocAttr, he] <;> rfl); all_goals try ((with_reducible intro hI); try first | (cases hI; done) | (simp only [INTS] at hI; try first | (exfalso; omega) | (have hT : True := hI; clear hT hI))))
      | ((apply W.callv cx_ok; decide); (iterate 2 (simp (disch := omega) only [push_cast, simprocAttr, he] <;> rfl)); (with_reducible first | exact gateR_ok _ _ _ _ hfit | exact departR_ok _ _ _ hv hgo (by omega) (by omega)); try first | rfl | (simp (disch := omega) only [push_cast, simprocAttr, he] <;> rfl))
      | ((first | apply W.ret2 | apply W.end2); (iterate 2 (try (simp (disch := omega) only [push_cast, simprocAttr, he] <;> rfl))))
    all_goals (show _ = _; rw [hE])
  · have hE : departH h w back t = (0, (gateAsked h w back t).2) := if_pos he
    refine OKat.of_body (rs := [8, 9]) Tryd.func44 rfl (by decide +kernel) rfl (by simp [Tryd.ntmps44]) ?_
    simp only [Tryd.ntmps44]
    repeat' first
      | apply AW.seq | apply AW.region | apply AW.ret | apply AW.block | apply AW.skip | apply AW.exit | apply AW.scope | apply AW.label | apply AWL.nil
      | ((first | (apply W.step cx_ok; decide) | apply W.store cx_ok | apply AW.cond); (simp (disch := omega) only [push_cast, simprocAttr, he] <;> rfl); all_goals try ((with_reducible intro hI); try first | (cases hI; done) | (simp only [INTS] at hI; try first | (exfalso; omega) | (have hT : True := hI; clear hT hI))))
      | ((apply W.callv cx_ok; decide); (iterate 2 (simp (disch := omega) only [push_cast, simprocAttr, he] <;> rfl)); (with_reducible first | exact gateR_ok _ _ _ _ hfit); try first | rfl | (simp (disch := omega) only [push_cast, simprocAttr, he] <;> rfl))
      | ((first | apply W.ret2 | apply W.end2); (iterate 2 (try (simp (disch := omega) only [push_cast, simprocAttr, he] <;> rfl))))
    all_goals (show _ = _; rw [hE])

end Go.Proofs.Hs
