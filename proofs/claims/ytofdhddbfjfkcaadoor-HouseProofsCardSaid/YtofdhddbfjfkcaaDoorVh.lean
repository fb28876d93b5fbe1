/-
  Contracts of functions, proved by going through their code. No conditions.
-/
import Derived.Test.YtofdhddbfjfkcaaDoorHc
import Derived.Test.YtofdhddbfjfkcaaDoorHe
import Derived.Test.YtofdhddbfjfkcaaDoorHf
import Derived.Test.YtofdhddbfjfkcaaDoorVc
set_option maxHeartbeats 8000000
set_option linter.unusedSimpArgs false
set_option linter.unusedVariables false
set_option maxRecDepth 10000
namespace Go.Proofs.Hs
open Go Go.Pg Go.Proofs

theorem Equal_ok (a b : List Int) (ha : a.length ≤ 1099511627776) (hb : b.length ≤ 1099511627776) : OKv cx 97 [lInt a, lInt b] (ab (decide (a = b))) := by
  by_cases hl : a.length = b.length
  ·
    refine OKat.of_body (rs := [4]) Tryd.func97 rfl (by decide +kernel) rfl (by simp [Tryd.ntmps97]) ?_
    simp only [Tryd.ntmps97]
    repeat' first
      | apply AW.seq | apply AW.region | apply AW.ret | apply AW.block | apply AW.skip | apply AW.exit | apply AW.scope | apply AW.label | apply AWL.nil | apply D.nil
      | refine W.draw cx_mixed (by decide +kernel) ?_
      | ((first | (apply W.step cx_ok; decide) | (apply D.step cx_ok; decide; decide) | apply AW.cond); (simp (disch := omega) only [push_cast, simprocAttr] <;> rfl); all_goals try ((with_reducible intro hI); try first | (cases hI; done) | (simp only [INTS] at hI; try first | (exfalso; omega) | (have hT : True := hI; clear hT hI))))
      | ((first | apply W.ret1 | apply W.end1); (iterate 2 (try (simp (disch := omega) only [push_cast, simprocAttr] <;> rfl))))
    refine AW.loop (fun n s => ∃ (k : Nat) (ra rb : List Int), n = ra.length ∧ (a.drop k = ra) ∧ (b.drop k = rb) ∧ (ra.length = rb.length) ∧ (decide (ra = rb) = decide (a = b)) ∧ s.tm 0 = lInt a ∧ s.tm 1 = lInt b ∧ s.tm 12 = ai a.length ∧ s.tm 13 = ai k) (a.length) ⟨0, a, b, rfl, rfl, rfl, hl, rfl, ?_, ?_, ?_, ?_⟩ ?_
    iterate 4 (first | (simp (disch := omega) only [push_cast, simprocAttr] <;> first | rfl | omega) | omega)
    rintro n s ⟨k, ra, rb, hn, hp0, hp1, hp2, hp3, hS⟩
    rcases ra with _ | ⟨x, ra⟩
    · have hk := drop_nil hp0
      repeat' first
        | apply AW.seq | apply AW.region | apply AW.ret | apply AW.block | apply AW.skip | apply AW.exit | apply AW.scope | apply AW.label | apply AWL.nil | apply D.nil
        | refine W.draw cx_mixed (by decide +kernel) ?_
        | ((first | (apply W.step cx_ok; decide) | (apply D.step cx_ok; decide; decide) | apply AW.cond); (simp (disch := omega) only [push_cast, simprocAttr, hS, hk] <;> rfl); all_goals try ((with_reducible intro hI); try first | (cases hI; done) | (simp only [INTS] at hI; try first | (exfalso; omega) | (have hT : True := hI; clear hT hI))))
        | ((first | apply W.ret1 | apply W.end1); (iterate 2 (try (simp (disch := omega) only [push_cast, simprocAttr, hS, hk] <;> rfl))))
      all_goals
        (have hrb : rb = [] := List.eq_nil_of_length_eq_zero (by simpa using hp2.symm)
         show _ = _; rw [← hp3, hrb]; rfl)
    · obtain ⟨y, rb, rfl⟩ : ∃ y r, rb = y :: r := by
        cases rb with
        | nil => simp at hp2
        | cons y r => exact ⟨y, r, rfl⟩
      obtain ⟨hk, hg, hd', hl2, hm, hx⟩ := drop_cons hp0 eInt []
      obtain ⟨hkb, hgb, hdb, hlb, hmb, hxb⟩ := drop_cons hp1 eInt []
      have hp2' : ra.length = rb.length := by simpa using hp2
      repeat' first
        | apply AW.seq | apply AW.region | apply AW.ret | apply AW.block | apply AW.skip | apply AW.exit | apply AW.scope | apply AW.label | apply AWL.nil | apply D.nil
        | refine W.draw cx_mixed (by decide +kernel) ?_
        | ((first | (apply W.step cx_ok; decide) | (apply D.step cx_ok; decide; decide) | apply AW.cond); (simp (disch := omega) only [push_cast, simprocAttr, hS, hk, hg, hkb, hgb] <;> rfl); all_goals try ((with_reducible intro hI); try first | (cases hI; done) | (simp only [INTS] at hI; try first | (exfalso; omega) | (have hT : True := hI; clear hT hI))))
        | ((first | apply W.ret1 | apply W.end1); (iterate 2 (try (simp (disch := omega) only [push_cast, simprocAttr, hS, hk, hg, hkb, hgb] <;> rfl))))
      all_goals first
        | (show _ = _; rw [← hp3]; refine congrArg (fun b => AV.v (Value.bool b)) ?_; symm; rw [decide_eq_false_iff_not]; intro he; injection he with he1 he2; omega)
        | (have hxy : x = y := by omega
           have hp3' : decide (ra = rb) = decide (a = b) := by rw [← hp3, hxy]; simp
           (refine ⟨ra.length, ?_, k + 1, ra, rb, rfl, hd', hdb, hp2', hp3', ?_, ?_, ?_, ?_⟩; ((simp only [List.length_cons] at *; omega)); all_goals first | (simp (disch := omega) only [push_cast, simprocAttr, hS, hg, hk, hkb, hgb] <;> first | rfl | omega) | omega))
  · have hl' : ¬ (a.length : Int) = (b.length : Int) := by omega
    refine OKat.of_body (rs := [4]) Tryd.func97 rfl (by decide +kernel) rfl (by simp [Tryd.ntmps97]) ?_
    simp only [Tryd.ntmps97]
    repeat' first
      | apply AW.seq | apply AW.region | apply AW.ret | apply AW.block | apply AW.skip | apply AW.exit | apply AW.scope | apply AW.label | apply AWL.nil | apply D.nil
      | refine W.draw cx_mixed (by decide +kernel) ?_
      | ((first | (apply W.step cx_ok; decide) | (apply D.step cx_ok; decide; decide) | apply AW.cond); (simp (disch := omega) only [push_cast, simprocAttr, hl'] <;> rfl); all_goals try ((with_reducible intro hI); try first | (cases hI; done) | (simp only [INTS] at hI; try first | (exfalso; omega) | (have hT : True := hI; clear hT hI))))
      | ((first | apply W.ret1 | apply W.end1); (iterate 2 (try (simp (disch := omega) only [push_cast, simprocAttr, hl'] <;> rfl))))
    all_goals (show _ = _; refine congrArg (fun b => AV.v (Value.bool b)) ?_; symm; rw [decide_eq_false_iff_not]; intro he; exact hl (by rw [he]))
def checkLabH (h : House) (a t : Int) (l : List Int) : Int := if roomE h a t ≠ 0 then roomE h a t else if (arrH h a.toNat t).1 = l then 0 else 8
theorem CheckLabels_ok (h : House) (n0 t : Int) (l : List Int) (hfit : h.Fit) (hll : l.length ≤ 1099511627776) : OKv cx 50 [.agg (eHouse h), ai n0, ai t, lInt l] (ai (checkLabH h n0 t l)) := by
  by_cases he : roomE h n0 t = 0
  · obtain ⟨hc, hn, ht⟩ := roomE_zero he
    unfold timeOK at ht
    have hrl := hfit.rooms
    have hla : (arrH h n0.toNat t).1.length ≤ 1099511627776 := by rw [(arrH_len h n0.toNat t).1]; omega
    by_cases hq : (arrH h n0.toNat t).1 = l
    · have hE : checkLabH h n0 t l = 0 := by unfold checkLabH; rw [if_neg (by simp [he]), if_pos hq]
      have hD : decide ((arrH h n0.toNat t).1 = l) = true := decide_eq_true hq
      refine OKat.of_body (rs := [8]) Tryd.func50 rfl (by decide +kernel) rfl (by simp [Tryd.ntmps50]) ?_
      simp only [Tryd.ntmps50]
      repeat' first
        | apply AW.seq | apply AW.region | apply AW.ret | apply AW.block | apply AW.skip | apply AW.exit | apply AW.scope | apply AW.label | apply AWL.nil
        | ((first | (apply W.step cx_ok; decide) | apply AW.cond); (simp (disch := omega) only [push_cast, simprocAttr, he, hD] <;> rfl); all_goals try ((with_reducible intro hI); try first | (cases hI; done) | (simp only [INTS] at hI; try first | (exfalso; omega) | (have hT : True := hI; clear hT hI))))
        | ((apply W.callv cx_ok; decide); (iterate 2 (simp (disch := omega) only [push_cast, simprocAttr, he, hD] <;> rfl)); (with_reducible first | exact askedOneR_ok _ _ _ hfit | exact arrivals_ok h n0 t hfit (Check_V hc) hn ht | exact Equal_ok _ _ hla hll); try first | rfl | (simp (disch := omega) only [push_cast, simprocAttr, he, hD] <;> rfl))
        | ((first | apply W.ret1 | apply W.end1); (iterate 2 (try (simp (disch := omega) only [push_cast, simprocAttr, he, hD] <;> rfl))))
      all_goals (show _ = _; rw [hE])
    · have hE : checkLabH h n0 t l = 8 := by unfold checkLabH; rw [if_neg (by simp [he]), if_neg hq]
      have hD : decide ((arrH h n0.toNat t).1 = l) = false := decide_eq_false hq
      refine OKat.of_body (rs := [8]) Tryd.func50 rfl (by decide +kernel) rfl (by simp [Tryd.ntmps50]) ?_
      simp only [Tryd.ntmps50]
      repeat' first
        | apply AW.seq | apply AW.region | apply AW.ret | apply AW.block | apply AW.skip | apply AW.exit | apply AW.scope | apply AW.label | apply AWL.nil
        | ((first | (apply W.step cx_ok; decide) | apply AW.cond); (simp (disch := omega) only [push_cast, simprocAttr, he, hD] <;> rfl); all_goals try ((with_reducible intro hI); try first | (cases hI; done) | (simp only [INTS] at hI; try first | (exfalso; omega) | (have hT : True := hI; clear hT hI))))
        | ((apply W.callv cx_ok; decide); (iterate 2 (simp (disch := omega) only [push_cast, simprocAttr, he, hD] <;> rfl)); (with_reducible first | exact askedOneR_ok _ _ _ hfit | exact arrivals_ok h n0 t hfit (Check_V hc) hn ht | exact Equal_ok _ _ hla hll); try first | rfl | (simp (disch := omega) only [push_cast, simprocAttr, he, hD] <;> rfl))
        | ((first | apply W.ret1 | apply W.end1); (iterate 2 (try (simp (disch := omega) only [push_cast, simprocAttr, he, hD] <;> rfl))))
      all_goals (show _ = _; rw [hE])
  · have hE : checkLabH h n0 t l = roomE h n0 t := if_pos he
    refine OKat.of_body (rs := [8]) Tryd.func50 rfl (by decide +kernel) rfl (by simp [Tryd.ntmps50]) ?_
    simp only [Tryd.ntmps50]
    repeat' first
      | apply AW.seq | apply AW.region | apply AW.ret | apply AW.block | apply AW.skip | apply AW.exit | apply AW.scope | apply AW.label | apply AWL.nil
      | ((first | (apply W.step cx_ok; decide) | apply AW.cond); (simp (disch := omega) only [push_cast, simprocAttr, he] <;> rfl); all_goals try ((with_reducible intro hI); try first | (cases hI; done) | (simp only [INTS] at hI; try first | (exfalso; omega) | (have hT : True := hI; clear hT hI))))
      | ((apply W.callv cx_ok; decide); (iterate 2 (simp (disch := omega) only [push_cast, simprocAttr, he] <;> rfl)); (with_reducible first | exact askedOneR_ok _ _ _ hfit); try first | rfl | (simp (disch := omega) only [push_cast, simprocAttr, he] <;> rfl))
      | ((first | apply W.ret1 | apply W.end1); (iterate 2 (try (simp (disch := omega) only [push_cast, simprocAttr, he] <;> rfl))))
    all_goals (show _ = _; rw [hE])

end Go.Proofs.Hs

set_option maxHeartbeats 8000000
set_option linter.unusedSimpArgs false
set_option linter.unusedVariables false
set_option maxRecDepth 10000
namespace Go.Proofs.Hs
open Go Go.Pg Go.Proofs

theorem law11_ok (h : House) (a ta b tb : Int) (l : List Int) (hn : ∀ r ∈ h.rooms, r.name.size ≤ 9223372036854775807) : OKv cx 11 [.agg (eHouse h), ai a, ai ta, ai b, ai tb, lInt l] (ab true) := by
  by_cases hf : few h = true
  · have hfit := few_fit hf hn
    have hrl := hfit.rooms
    by_cases hl40 : l.length ≤ 40
    · have hll : l.length ≤ 1099511627776 := by omega
      have hla : (arrH h a.toNat ta).1.length ≤ 1099511627776 := by rw [(arrH_len h a.toNat ta).1]; omega
      by_cases he : roomE h a ta = 0
      · have hE : earliestH h a ta = ((arrH h a.toNat ta).1, 0) := if_neg (by simp [he])
        by_cases hq : (arrH h a.toNat ta).1 = l
        · have hK : checkLabH h a ta l = 0 := by unfold checkLabH; rw [if_neg (by simp [he]), if_pos hq]
          have hD : decide ((arrH h a.toNat ta).1 = l) = true := decide_eq_true hq
          refine OKat.of_body (rs := [12]) Tryd.func11 rfl (by decide +kernel) rfl (by simp [Tryd.ntmps11]) ?_
          simp only [Tryd.ntmps11]
          repeat' first
            | apply AW.seq | apply AW.region | apply AW.ret | apply AW.block | apply AW.skip | apply AW.exit | apply AW.scope | apply AW.label | apply AWL.nil | apply D.nil
            | refine W.draw cx_mixed (by decide +kernel) ?_
            | ((first | (apply W.step cx_ok; decide) | (apply D.step cx_ok; decide; decide) | apply W.store cx_ok | (apply W.gS; rfl; decide) | (apply D.gS; rfl; decide; decide) | apply AW.cond); (simp (disch := omega) only [push_cast, simprocAttr, hf, hE, hK, hD] <;> rfl); all_goals try ((with_reducible intro hI); try first | (cases hI; done) | (simp only [INTS] at hI; try first | (exfalso; omega) | (have hT : True := hI; clear hT hI))))
            | ((first | (apply W.callv cx_ok; decide) | (apply D.callv cx_ok; decide; decide)); (iterate 2 (simp (disch := omega) only [push_cast, simprocAttr, hf, hE, hK, hD] <;> rfl)); (with_reducible first | exact few_ok _ | exact sanity_ok | exact CheckLabels_ok _ _ _ _ hfit hll | exact EarliestR_ok _ _ _ hfit | exact SameInts_ok _ _ hla hll | exact CheckWall_ok _ _ _ _ _ _ hfit hll | exact CheckWallR_ok _ _ _ _ _ _ hfit hll); try first | rfl | (simp (disch := omega) only [push_cast, simprocAttr, hf, hE, hK, hD] <;> rfl))
            | ((first | apply W.ret1 | apply W.end1); (iterate 2 (try (simp (disch := omega) only [push_cast, simprocAttr, hf, hE, hK, hD] <;> rfl))))
          all_goals (show _ = _; first | rfl | (simp_all; done))
        · have hK : checkLabH h a ta l = 8 := by unfold checkLabH; rw [if_neg (by simp [he]), if_neg hq]
          have hD : decide ((arrH h a.toNat ta).1 = l) = false := decide_eq_false hq
          refine OKat.of_body (rs := [12]) Tryd.func11 rfl (by decide +kernel) rfl (by simp [Tryd.ntmps11]) ?_
          simp only [Tryd.ntmps11]
          repeat' first
            | apply AW.seq | apply AW.region | apply AW.ret | apply AW.block | apply AW.skip | apply AW.exit | apply AW.scope | apply AW.label | apply AWL.nil | apply D.nil
            | refine W.draw cx_mixed (by decide +kernel) ?_
            | ((first | (apply W.step cx_ok; decide) | (apply D.step cx_ok; decide; decide) | apply W.store cx_ok | (apply W.gS; rfl; decide) | (apply D.gS; rfl; decide; decide) | apply AW.cond); (simp (disch := omega) only [push_cast, simprocAttr, hf, hE, hK, hD] <;> rfl); all_goals try ((with_reducible intro hI); try first | (cases hI; done) | (simp only [INTS] at hI; try first | (exfalso; omega) | (have hT : True := hI; clear hT hI))))
            | ((first | (apply W.callv cx_ok; decide) | (apply D.callv cx_ok; decide; decide)); (iterate 2 (simp (disch := omega) only [push_cast, simprocAttr, hf, hE, hK, hD] <;> rfl)); (with_reducible first | exact few_ok _ | exact sanity_ok | exact CheckLabels_ok _ _ _ _ hfit hll | exact EarliestR_ok _ _ _ hfit | exact SameInts_ok _ _ hla hll | exact CheckWall_ok _ _ _ _ _ _ hfit hll | exact CheckWallR_ok _ _ _ _ _ _ hfit hll); try first | rfl | (simp (disch := omega) only [push_cast, simprocAttr, hf, hE, hK, hD] <;> rfl))
            | ((first | apply W.ret1 | apply W.end1); (iterate 2 (try (simp (disch := omega) only [push_cast, simprocAttr, hf, hE, hK, hD] <;> rfl))))
          all_goals (show _ = _; first | rfl | (simp_all; done))
      · have hE : earliestH h a ta = ([], roomE h a ta) := if_pos he
        have hK : checkLabH h a ta l = roomE h a ta := if_pos he
        refine OKat.of_body (rs := [12]) Tryd.func11 rfl (by decide +kernel) rfl (by simp [Tryd.ntmps11]) ?_
        simp only [Tryd.ntmps11]
        repeat' first
          | apply AW.seq | apply AW.region | apply AW.ret | apply AW.block | apply AW.skip | apply AW.exit | apply AW.scope | apply AW.label | apply AWL.nil | apply D.nil
          | refine W.draw cx_mixed (by decide +kernel) ?_
          | ((first | (apply W.step cx_ok; decide) | (apply D.step cx_ok; decide; decide) | apply W.store cx_ok | (apply W.gS; rfl; decide) | (apply D.gS; rfl; decide; decide) | apply AW.cond); (simp (disch := omega) only [push_cast, simprocAttr, hf, hE, hK, he] <;> rfl); all_goals try ((with_reducible intro hI); try first | (cases hI; done) | (simp only [INTS] at hI; try first | (exfalso; omega) | (have hT : True := hI; clear hT hI))))
          | ((first | (apply W.callv cx_ok; decide) | (apply D.callv cx_ok; decide; decide)); (iterate 2 (simp (disch := omega) only [push_cast, simprocAttr, hf, hE, hK, he] <;> rfl)); (with_reducible first | exact few_ok _ | exact sanity_ok | exact CheckLabels_ok _ _ _ _ hfit hll | exact EarliestR_ok _ _ _ hfit | exact SameInts_ok _ _ hla hll | exact CheckWall_ok _ _ _ _ _ _ hfit hll | exact CheckWallR_ok _ _ _ _ _ _ hfit hll); try first | rfl | (simp (disch := omega) only [push_cast, simprocAttr, hf, hE, hK, he] <;> rfl))
          | ((first | apply W.ret1 | apply W.end1); (iterate 2 (try (simp (disch := omega) only [push_cast, simprocAttr, hf, hE, hK, he] <;> rfl))))
        all_goals (show _ = _; first | rfl | (simp_all; done))
    ·
      refine OKat.of_body (rs := [12]) Tryd.func11 rfl (by decide +kernel) rfl (by simp [Tryd.ntmps11]) ?_
      simp only [Tryd.ntmps11]
      repeat' first
        | apply AW.seq | apply AW.region | apply AW.ret | apply AW.block | apply AW.skip | apply AW.exit | apply AW.scope | apply AW.label | apply AWL.nil | apply D.nil
        | refine W.draw cx_mixed (by decide +kernel) ?_
        | ((first | (apply W.step cx_ok; decide) | (apply D.step cx_ok; decide; decide) | apply W.store cx_ok | (apply W.gS; rfl; decide) | (apply D.gS; rfl; decide; decide) | apply AW.cond); (simp (disch := omega) only [push_cast, simprocAttr, hf] <;> rfl); all_goals try ((with_reducible intro hI); try first | (cases hI; done) | (simp only [INTS] at hI; try first | (exfalso; omega) | (have hT : True := hI; clear hT hI))))
        | ((first | (apply W.callv cx_ok; decide) | (apply D.callv cx_ok; decide; decide)); (iterate 2 (simp (disch := omega) only [push_cast, simprocAttr, hf] <;> rfl)); (with_reducible first | exact few_ok _ | exact sanity_ok); try first | rfl | (simp (disch := omega) only [push_cast, simprocAttr, hf] <;> rfl))
        | ((first | apply W.ret1 | apply W.end1); (iterate 2 (try (simp (disch := omega) only [push_cast, simprocAttr, hf] <;> rfl))))
      all_goals (show _ = _; first | rfl | (simp_all; done))
  · have hf' : few h = false := by simpa using hf
    refine OKat.of_body (rs := [12]) Tryd.func11 rfl (by decide +kernel) rfl (by simp [Tryd.ntmps11]) ?_
    simp only [Tryd.ntmps11]
    repeat' first
      | apply AW.seq | apply AW.region | apply AW.ret | apply AW.block | apply AW.skip | apply AW.exit | apply AW.scope | apply AW.label | apply AWL.nil | apply D.nil
      | refine W.draw cx_mixed (by decide +kernel) ?_
      | ((first | (apply W.step cx_ok; decide) | (apply D.step cx_ok; decide; decide) | apply W.store cx_ok | (apply W.gS; rfl; decide) | (apply D.gS; rfl; decide; decide) | apply AW.cond); (simp (disch := omega) only [push_cast, simprocAttr, hf'] <;> rfl); all_goals try ((with_reducible intro hI); try first | (cases hI; done) | (simp only [INTS] at hI; try first | (exfalso; omega) | (have hT : True := hI; clear hT hI))))
      | ((first | (apply W.callv cx_ok; decide) | (apply D.callv cx_ok; decide; decide)); (iterate 2 (simp (disch := omega) only [push_cast, simprocAttr, hf'] <;> rfl)); (with_reducible first | exact few_ok _ | exact sanity_ok); try first | rfl | (simp (disch := omega) only [push_cast, simprocAttr, hf'] <;> rfl))
      | ((first | apply W.ret1 | apply W.end1); (iterate 2 (try (simp (disch := omega) only [push_cast, simprocAttr, hf'] <;> rfl))))
    all_goals (show _ = _; first | rfl | (simp_all; done))

end Go.Proofs.Hs
