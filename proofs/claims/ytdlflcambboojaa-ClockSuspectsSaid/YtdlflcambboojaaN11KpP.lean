/-
  Contracts of functions, proved by going through their code. No conditions.
-/
import Derived.Test.YtdlflcambboojaaSaa
import Derived.Test.YtdlflcambboojaaSaw
import Derived.Test.YtdlflcambboojaaSbd
import Derived.Test.YtdlflcambboojaaSbe
import Derived.Test.YtdlflcambboojaaSbf
import Derived.Test.YtdlflcambboojaaN11KlT
import Derived.Test.YtdlflcambboojaaN11KpN
import Derived.Test.YtdlflcambboojaaN11KpO
set_option linter.unusedVariables false
set_option linter.unusedSimpArgs false
set_option maxHeartbeats 8000000
set_option maxRecDepth 10000
namespace Go.Proofs.Ks
open Go Go.Pg Go.Proofs
theorem law11_bad (r : Rec) (n E : Int) (hE : E ≠ 0) (csm : OKv cx 19 [.agg (eRec r)] (ab true)) (c21 : OKv cx 21 [.agg (eRec r)] (ai E)) (c48 : OKv cx 48 [.agg (eRec r)] (.tup [.lst [], .lst [], ai E])) (c49 : OKv cx 49 [.agg (eRec r), ai n] (.tup [.lst [], ai E])) : OKv cx 11 [.agg (eRec r), ai n] (ab true) := by
  have c20 := sanity_ok
  have hEF : (E = 0) = False := eq_false hE
  refine OKat.of_body (rs := [4]) Try.func11 rfl (by decide +kernel) rfl (by simp [Try.ntmps11]) ?_
  simp only [Try.ntmps11]
  repeat' first
    | apply jA | apply jB | apply jC | apply jD | apply jE | apply jF | apply jG | apply jH | apply jI
    | ((first | (apply jK cx_ok; decide) | (apply jN; rfl; decide) | apply jR); (simp (maxSteps := 1000000) (disch := omega) only [push_cast, simprocAttr, hEF, natNe, List.mem_cons, List.not_mem_nil, TyD.isAgg, Nat.add_assoc, Bool.false_eq_true, Bool.true_and, Bool.and_true, beq_self_eq_true, Bool.and_self, Bool.not_true, List.map_nil, List.length_nil, Int.natCast_zero, Int.ofNat_eq_natCast] <;> rfl); all_goals try ((with_reducible intro hI); try first | (cases hI; done) | (simp only [INTS, zL] at hI; try first | (exfalso; omega) | (have hT : True := hI; clear hT hI))))
    | ((apply jV cx_ok; decide); (iterate 2 (simp (maxSteps := 1000000) (disch := omega) only [push_cast, simprocAttr, hEF, natNe, List.mem_cons, List.not_mem_nil, TyD.isAgg, Nat.add_assoc, Bool.false_eq_true, Bool.true_and, Bool.and_true, beq_self_eq_true, Bool.and_self, Bool.not_true, List.map_nil, List.length_nil, Int.natCast_zero, Int.ofNat_eq_natCast] <;> rfl)); (with_reducible first | exact csm | exact c20 | exact c21 | exact c48 | exact c49); try first | rfl | (simp (maxSteps := 1000000) (disch := omega) only [push_cast, simprocAttr, hEF, natNe, List.mem_cons, List.not_mem_nil, TyD.isAgg, Nat.add_assoc, Bool.false_eq_true, Bool.true_and, Bool.and_true, beq_self_eq_true, Bool.and_self, Bool.not_true, List.map_nil, List.length_nil, Int.natCast_zero, Int.ofNat_eq_natCast] <;> rfl))
    | ((first | apply jf | apply jg); (iterate 2 (try (simp (maxSteps := 1000000) (disch := omega) only [push_cast, simprocAttr, hEF, natNe, List.mem_cons, List.not_mem_nil, TyD.isAgg, Nat.add_assoc, Bool.false_eq_true, Bool.true_and, Bool.and_true, beq_self_eq_true, Bool.and_self, Bool.not_true, List.map_nil, List.length_nil, Int.natCast_zero, Int.ofNat_eq_natCast] <;> rfl))))

  all_goals (show _ = _; rfl)
theorem law11_out (r : Rec) (n : Int) (A B : List Int) (hn : (n < 0) = True ∧ 0 = 0 ∨ (n < 0) = False ∧ (n ≥ (r.strikes.length : Int)) = True) (csm : OKv cx 19 [.agg (eRec r)] (ab true)) (c21 : OKv cx 21 [.agg (eRec r)] (ai 0)) (c48 : OKv cx 48 [.agg (eRec r)] (.tup [lInt A, lInt B, ai 0])) (c50 : OKv cx 50 [.agg (eRec r)] (.tup [lInt A, lInt B])) (c51a : OKv cx 51 [lInt A, lInt A] (ab true)) (c51b : OKv cx 51 [lInt B, lInt B] (ab true)) (c49 : OKv cx 49 [.agg (eRec r), ai n] (.tup [.lst [], ai 1])) : OKv cx 11 [.agg (eRec r), ai n] (ab true) := by
  have c20 := sanity_ok
  rcases hn with ⟨hn, hl⟩ | ⟨hn, hl⟩
  all_goals
    refine OKat.of_body (rs := [4]) Try.func11 rfl (by decide +kernel) rfl (by simp [Try.ntmps11]) ?_
    simp only [Try.ntmps11]
    repeat' first
      | apply jA | apply jB | apply jC | apply jD | apply jE | apply jF | apply jG | apply jH | apply jI
      | ((first | (apply jK cx_ok; decide) | (apply jN; rfl; decide) | apply jR); (simp (maxSteps := 1000000) (disch := omega) only [push_cast, simprocAttr, hn, hl, natNe, List.mem_cons, List.not_mem_nil, TyD.isAgg, Nat.add_assoc, Bool.false_eq_true, Bool.true_and, Bool.and_true, beq_self_eq_true, Bool.and_self, Bool.not_true, List.map_nil, List.length_nil, Int.natCast_zero, Int.ofNat_eq_natCast] <;> rfl); all_goals try ((with_reducible intro hI); try first | (cases hI; done) | (simp only [INTS, zL] at hI; try first | (exfalso; omega) | (have hT : True := hI; clear hT hI))))
      | ((apply jV cx_ok; decide); (iterate 2 (simp (maxSteps := 1000000) (disch := omega) only [push_cast, simprocAttr, hn, hl, natNe, List.mem_cons, List.not_mem_nil, TyD.isAgg, Nat.add_assoc, Bool.false_eq_true, Bool.true_and, Bool.and_true, beq_self_eq_true, Bool.and_self, Bool.not_true, List.map_nil, List.length_nil, Int.natCast_zero, Int.ofNat_eq_natCast] <;> rfl)); (with_reducible first | exact csm | exact c20 | exact c21 | exact c48 | exact c49 | exact c50 | exact c51a | exact c51b); try first | rfl | (simp (maxSteps := 1000000) (disch := omega) only [push_cast, simprocAttr, hn, hl, natNe, List.mem_cons, List.not_mem_nil, TyD.isAgg, Nat.add_assoc, Bool.false_eq_true, Bool.true_and, Bool.and_true, beq_self_eq_true, Bool.and_self, Bool.not_true, List.map_nil, List.length_nil, Int.natCast_zero, Int.ofNat_eq_natCast] <;> rfl))
      | ((first | apply jf | apply jg); (iterate 2 (try (simp (maxSteps := 1000000) (disch := omega) only [push_cast, simprocAttr, hn, hl, natNe, List.mem_cons, List.not_mem_nil, TyD.isAgg, Nat.add_assoc, Bool.false_eq_true, Bool.true_and, Bool.and_true, beq_self_eq_true, Bool.and_self, Bool.not_true, List.map_nil, List.length_nil, Int.natCast_zero, Int.ofNat_eq_natCast] <;> rfl))))

    all_goals (show _ = _; rfl)
theorem law11_in (r : Rec) (n : Int) (A B M : List Int) (Q : Bool) (hn : (n < 0) = False) (hl : (n ≥ (r.strikes.length : Int)) = False) (csm : OKv cx 19 [.agg (eRec r)] (ab true)) (c21 : OKv cx 21 [.agg (eRec r)] (ai 0)) (c48 : OKv cx 48 [.agg (eRec r)] (.tup [lInt A, lInt B, ai 0])) (c50 : OKv cx 50 [.agg (eRec r)] (.tup [lInt A, lInt B])) (c51a : OKv cx 51 [lInt A, lInt A] (ab true)) (c51b : OKv cx 51 [lInt B, lInt B] (ab true)) (c49 : OKv cx 49 [.agg (eRec r), ai n] (.tup [lInt M, ai (bif Q then 0 else 9)])) (hM : Q = false → M = []) (c52 : Q = true → OKv cx 52 [.agg (eRec r), ai n] (lInt M)) (c51m : OKv cx 51 [lInt M, lInt M] (ab true)) (c30 : OKv cx 30 [.agg (eRec r)] (ab Q)) : OKv cx 11 [.agg (eRec r), ai n] (ab true) := by
  have c20 := sanity_ok
  cases Q
  case' false =>
    obtain rfl := hM rfl
    have e52 := c20
    replace c49 : OKv cx 49 [.agg (eRec r), ai n] (.tup [lInt [], ai 9]) := c49
  case' true =>
    have e52 := c52 rfl
    replace c49 : OKv cx 49 [.agg (eRec r), ai n] (.tup [lInt M, ai 0]) := c49
  all_goals
    refine OKat.of_body (rs := [4]) Try.func11 rfl (by decide +kernel) rfl (by simp [Try.ntmps11]) ?_
    simp only [Try.ntmps11]
    repeat' first
      | apply jA | apply jB | apply jC | apply jD | apply jE | apply jF | apply jG | apply jH | apply jI
      | ((first | (apply jK cx_ok; decide) | (apply jN; rfl; decide) | apply jR); (simp (maxSteps := 1000000) (disch := omega) only [push_cast, simprocAttr, hn, hl, natNe, List.mem_cons, List.not_mem_nil, TyD.isAgg, Nat.add_assoc, Bool.false_eq_true, Bool.true_and, Bool.and_true, beq_self_eq_true, Bool.and_self, Bool.not_true, List.map_nil, List.length_nil, Int.natCast_zero, Int.ofNat_eq_natCast] <;> rfl); all_goals try ((with_reducible intro hI); try first | (cases hI; done) | (simp only [INTS, zL] at hI; try first | (exfalso; omega) | (have hT : True := hI; clear hT hI))))
      | ((apply jV cx_ok; decide); (iterate 2 (simp (maxSteps := 1000000) (disch := omega) only [push_cast, simprocAttr, hn, hl, natNe, List.mem_cons, List.not_mem_nil, TyD.isAgg, Nat.add_assoc, Bool.false_eq_true, Bool.true_and, Bool.and_true, beq_self_eq_true, Bool.and_self, Bool.not_true, List.map_nil, List.length_nil, Int.natCast_zero, Int.ofNat_eq_natCast] <;> rfl)); (with_reducible first | exact csm | exact c20 | exact c21 | exact c48 | exact c49 | exact c50 | exact c51a | exact c51b | exact c30 | exact c51m | exact e52); try first | rfl | (simp (maxSteps := 1000000) (disch := omega) only [push_cast, simprocAttr, hn, hl, natNe, List.mem_cons, List.not_mem_nil, TyD.isAgg, Nat.add_assoc, Bool.false_eq_true, Bool.true_and, Bool.and_true, beq_self_eq_true, Bool.and_self, Bool.not_true, List.map_nil, List.length_nil, Int.natCast_zero, Int.ofNat_eq_natCast] <;> rfl))
      | ((first | apply jf | apply jg); (iterate 2 (try (simp (maxSteps := 1000000) (disch := omega) only [push_cast, simprocAttr, hn, hl, natNe, List.mem_cons, List.not_mem_nil, TyD.isAgg, Nat.add_assoc, Bool.false_eq_true, Bool.true_and, Bool.and_true, beq_self_eq_true, Bool.and_self, Bool.not_true, List.map_nil, List.length_nil, Int.natCast_zero, Int.ofNat_eq_natCast] <;> rfl))))

    all_goals (show _ = _; rfl)
theorem law11_ok (r : Rec) (n : Int) : OKv cx 11 [.agg (eRec r), ai n] (ab true) := by
  have csm := small_ok r
  have c20 := sanity_ok
  have c21 := RCheck_ok r
  cases hsm : smallB r with
  | false =>
    rw [hsm] at csm
    refine OKat.of_body (rs := [4]) Try.func11 rfl (by decide +kernel) rfl (by simp [Try.ntmps11]) ?_
    simp only [Try.ntmps11]
    repeat' first
      | apply jA | apply jB | apply jC | apply jD | apply jE | apply jF | apply jG | apply jH | apply jI
      | ((first | (apply jK cx_ok; decide) | (apply jN; rfl; decide) | apply jR); (simp (disch := omega) only [push_cast, simprocAttr] <;> rfl); all_goals try ((with_reducible intro hI); try first | (cases hI; done) | (simp only [INTS, zL] at hI; try first | (exfalso; omega) | (have hT : True := hI; clear hT hI))))
      | ((apply jV cx_ok; decide); (iterate 2 (simp (disch := omega) only [push_cast, simprocAttr] <;> rfl)); (with_reducible first | exact csm | exact c20); try first | rfl | (simp (disch := omega) only [push_cast, simprocAttr] <;> rfl))
      | ((first | apply jf | apply jg); (iterate 2 (try (simp (disch := omega) only [push_cast, simprocAttr] <;> rfl))))

    all_goals (show _ = _; rfl)
  | true =>
    rw [hsm] at csm
    by_cases hc : checkE r = 0
    rotate_left
    · exact law11_bad r n _ hc csm c21 (Suspects_bad r hc) (Needed_bad r n hc)
    rw [hc] at c21
    have hv := checkE_V hc
    have hns := hv.nstrikes
    have hng := hv.nsights
    have c30 := cons30 hc
    have hAB : ∃ A B : List Int, A.length ≤ 100 ∧ B.length ≤ 100 ∧ OKv cx 48 [.agg (eRec r)] (.tup [lInt A, lInt B, ai 0]) ∧ OKv cx 50 [.agg (eRec r)] (.tup [lInt A, lInt B]) := by
      cases hq : consP r [] with
      | true => exact ⟨[], [], by decide, by decide, Suspects_none r hc hq, RSuspects_none r hc hq⟩
      | false =>
        refine ⟨(suspP r).1, (suspP r).2, ?_, ?_, Suspects_some r hc hq, RSuspects_some r hc hq⟩
        · have h1 : (suspP r).1.length = (stF r r.strikes.length).length := List.length_mergeSort _
          have h2 : (stF r r.strikes.length).length ≤ r.strikes.length := by
            unfold stF
            rw [List.length_map]
            refine Nat.le_trans (List.length_filter_le _ _) ?_
            rw [List.length_take]; omega
          omega
        · have h2 : (suspP r).2.length ≤ r.sights.length := by
            show (sgF r r.sights.length).length ≤ _
            unfold sgF
            rw [List.length_map]
            refine Nat.le_trans (List.length_filter_le _ _) ?_
            simp
          omega
    obtain ⟨A, B, hA, hB, c48, c50⟩ := hAB
    have c51a := SameInts_ok A A (by omega) (by omega)
    have c51b := SameInts_ok B B (by omega) (by omega)
    rw [decide_eq_true rfl] at c51a c51b
    by_cases h0 : n < 0
    · exact law11_out r n A B (.inl ⟨eq_true h0, rfl⟩) csm c21 c48 c50 c51a c51b (Needed_out r n hc (by omega))
    by_cases h1 : (r.strikes.length : Int) ≤ n
    · exact law11_out r n A B (.inr ⟨eq_false h0, eq_true h1⟩) csm c21 c48 c50 c51a c51b (Needed_out r n hc (by omega))
    cases hq : consP r [] with
    | false =>
      rw [hq] at c30
      exact law11_in r n A B [] false (eq_false h0) (eq_false h1) csm c21 c48 c50 c51a c51b (Needed_clash r n hc ⟨by omega, by omega⟩ hq) (fun _ => rfl) (fun h => by cases h) (SameInts_ok [] [] (by decide) (by decide)) c30
    | true =>
      rw [hq] at c30
      obtain ⟨n0, rfl⟩ := Int.eq_ofNat_of_zero_le (a := n) (by omega)
      have hM := neF_len r n0 r.sights.length
      have c51m := SameInts_ok (neF r n0 r.sights.length) (neF r n0 r.sights.length) (by omega) (by omega)
      rw [decide_eq_true rfl] at c51m
      exact law11_in r n0 A B _ true (eq_false h0) (eq_false h1) csm c21 c48 c50 c51a c51b (Needed_good r n0 hc (by omega) hq) (fun h => by cases h) (fun _ => RNeeded_ok r n0 hc hq (by omega)) c51m c30
end Go.Proofs.Ks
