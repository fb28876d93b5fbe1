/-
  Contracts of functions, proved by going through their code. No conditions.
-/
import Derived.Test.YtdlflcambboojaaMaa
import Derived.Test.YtdlflcambboojaaMbf
import Derived.Test.YtdlflcambboojaaN18KtZ
import Derived.Test.YtdlflcambboojaaN18KmA
import Derived.Test.YtdlflcambboojaaN18KuF
import Derived.Test.YtdlflcambboojaaN18LwA
set_option linter.unusedVariables false
set_option linter.unusedSimpArgs false
set_option maxHeartbeats 8000000
set_option maxRecDepth 10000
namespace Go.Proofs.Ks
open Go Go.Pg Go.Proofs
noncomputable def tail18 : Code := dropS 13 (Try.f18.body.getD .skip)
def Fine (ts : List Int) (f t b : Int) : Prop := ∃ f' t' : Nat, f = (f' : Int) ∧ t = (t' : Int) ∧ f' < ts.length ∧ t' < ts.length ∧ (-1073741823 ≤ ts.getD f' 0 ∧ ts.getD f' 0 ≤ 2147483646) ∧ (-1073741823 ≤ ts.getD t' 0 ∧ ts.getD t' 0 ≤ 2147483646) ∧ (-70000000000 ≤ b ∧ b ≤ 70000000000) ∧ ts.getD t' 0 ≤ ts.getD f' 0 + b
theorem fine_of {r : Rec} (hc : checkE r = 0) {ts : List Int} {f t : Int} {l : List Int} (h7 : checkTimesE r ts = 0) (h : (checkPathP r f t l).2 = 0) : Fine ts f t (checkPathP r f t l).1 := by
  obtain ⟨hf, ht, hb, hg⟩ := path_bound hc h
  obtain ⟨k1, k2, k3⟩ := times_sat hc h7
  have h1 := hf.2
  have h2 := ht.2
  have h3 := hf.1
  have h4 := ht.1
  exact ⟨f.toNat, t.toNat, by omega, by omega, by omega, by omega, k3 _ (by omega), k3 _ (by omega), hb, hg _ k2⟩
theorem tail18_ok (r : Rec) (ts : List Int) (f t : Int) (hl : ts.length ≤ 80) {e a b g : Int} (hN : checkTimesE r ts = 0 → (g = 0 → Fine ts f t b) ∧ (e = 0 → Fine ts f t a)) {s : St}
    (t1 : s.tm 1 = lInt ts) (t2 : s.tm 2 = ai f) (t3 : s.tm 3 = ai t) (t7 : s.tm 7 = .ptr 0 0 0 1) (t16 : s.tm 16 = ai e) (t17 : s.tm 17 = ai a) (t19 : s.tm 19 = ai b) (t20 : s.tm 20 = ai g) (hrow : Pg.rowAt s.H 0 = some { k := 14, es := [eRec r], ty := 30 }) (hnx : 1 ≤ s.nx) :
    AW cx 226 tail18 (endQ [14] fun x => x = ab true) s := by
  have c20 := sanity_ok
  have c47 := CheckTimes_ok r ts (by omega)
  delta tail18
  simp only [Try.f18, Option.getD_some, dropS]
  obtain ⟨C7, hC7⟩ : ∃ z, checkTimesE r ts = z := ⟨_, rfl⟩
  rw [hC7] at c47 hN
  have hT := And.intro t1 (And.intro t2 (And.intro t3 (And.intro t7 (And.intro t16 (And.intro t17 (And.intro t19 t20))))))
  clear t1 t2 t3 t7 t16 t17 t19 t20
  by_cases h7 : C7 = 0
  rotate_left
  · have h7F : (C7 = 0) = False := eq_false h7
    repeat' first
      | apply jA | apply jB | apply jC | apply jD | apply jE | apply jF | apply jG | apply jH | apply jI | apply jJ
      | refine W.draw cx_mixed (by decide +kernel) ?_
      | ((first | (apply jK cx_ok; decide) | (apply jL cx_ok; decide; decide) | apply jM cx_ok | (apply jN; rfl; decide) | (apply jO; rfl; decide; decide) | apply jR); (simp (disch := omega) only [push_cast, simprocAttr, hT, hrow, natNe, zI, zG, zJ, zM, Bool.true_and, zO, beq_self_eq_true, zP, Bool.not_true, zW, zC, h7F] <;> rfl); all_goals try ((with_reducible intro hI); try first | (cases hI; done) | (simp only [INTS, zL] at hI; try first | (exfalso; omega) | (have hT : True := hI; clear hT hI))))
      | ((first | (apply jP; rfl; decide) | (apply jQ; rfl; decide; decide)); (simp (disch := omega) only [push_cast, simprocAttr, hT, hrow, natNe, zI, zG, zJ, zM, Bool.true_and, zO, beq_self_eq_true, zP, Bool.not_true, zW, zC, h7F] <;> rfl))
      | ((first | (apply jV cx_ok; decide) | (apply jW cx_ok; decide; decide)); (iterate 2 (simp (disch := omega) only [push_cast, simprocAttr, hT, hrow, natNe, zI, zG, zJ, zM, Bool.true_and, zO, beq_self_eq_true, zP, Bool.not_true, zW, zC, h7F] <;> rfl)); (with_reducible first | exact c20 | exact c47); try first | rfl | (simp (disch := omega) only [push_cast, simprocAttr, hT, hrow, natNe, zI, zG, zJ, zM, Bool.true_and, zO, beq_self_eq_true, zP, Bool.not_true, zW, zC, h7F] <;> rfl))
      | ((first | apply jn | apply jo | apply jl | apply jm | apply jf | apply jg | apply jh | apply ji | apply jj | apply jk | apply jd | apply je); (iterate 2 (try (simp (disch := omega) only [push_cast, simprocAttr, hT, hrow, natNe, zI, zG, zJ, zM, Bool.true_and, zO, beq_self_eq_true, zP, Bool.not_true, zW, zC, h7F] <;> rfl))))

    all_goals (show _ = _; rfl)
  obtain ⟨n1, n2⟩ := hN h7
  subst h7
  by_cases hg : g = 0
  · have hgT : (g = 0) = True := eq_true hg
    obtain ⟨f', t', rfl, rfl, i1, i2, i3, i4, i5, i6⟩ := n1 hg
    obtain ⟨z1, z2, _⟩ := getI (ts := ts) (i := f') i1
    obtain ⟨z3, z4, _⟩ := getI (ts := ts) (i := t') i2
    have i7 : (f' : Int) < (ts.length : Int) := by omega
    have i8 : (t' : Int) < (ts.length : Int) := by omega
    by_cases he : e = 0
    · have heT : (e = 0) = True := eq_true he
      obtain ⟨f2, t2, j1, j2, j3, j4, j5, j6, j7, j8⟩ := n2 he
      have hf2 : f2 = f' := by omega
      have ht2 : t2 = t' := by omega
      rw [hf2, ht2] at j8
      obtain ⟨tf, htf⟩ : ∃ z, ts.getD f' 0 = z := ⟨_, rfl⟩
      obtain ⟨tt, htt⟩ : ∃ z, ts.getD t' 0 = z := ⟨_, rfl⟩
      rw [htf, htt] at i6 j8
      rw [htf] at z1 z2 i3
      rw [htt] at z3 z4 i4
      have hb2 : (tt ≤ tf + b) = True := eq_true i6
      have hb3 : (tt ≤ tf + a) = True := eq_true j8
      repeat' first
        | apply jA | apply jB | apply jC | apply jD | apply jE | apply jF | apply jG | apply jH | apply jI | apply jJ
        | refine W.draw cx_mixed (by decide +kernel) ?_
        | ((first | (apply jK cx_ok; decide) | (apply jL cx_ok; decide; decide) | apply jM cx_ok | (apply jN; rfl; decide) | (apply jO; rfl; decide; decide) | apply jR); (simp (disch := omega) only [push_cast, simprocAttr, hT, hrow, natNe, zI, zG, zJ, zM, Bool.true_and, zO, beq_self_eq_true, zP, Bool.not_true, zW, zC, hgT, heT, hb2, hb3, i7, i8, z1, z2, z3, z4] <;> rfl); all_goals try ((with_reducible intro hI); try first | (cases hI; done) | (simp only [INTS, zL] at hI; try first | (exfalso; omega) | (have hT : True := hI; clear hT hI))))
        | ((first | (apply jP; rfl; decide) | (apply jQ; rfl; decide; decide)); (simp (disch := omega) only [push_cast, simprocAttr, hT, hrow, natNe, zI, zG, zJ, zM, Bool.true_and, zO, beq_self_eq_true, zP, Bool.not_true, zW, zC, hgT, heT, hb2, hb3, i7, i8, z1, z2, z3, z4] <;> rfl))
        | ((first | (apply jV cx_ok; decide) | (apply jW cx_ok; decide; decide)); (iterate 2 (simp (disch := omega) only [push_cast, simprocAttr, hT, hrow, natNe, zI, zG, zJ, zM, Bool.true_and, zO, beq_self_eq_true, zP, Bool.not_true, zW, zC, hgT, heT, hb2, hb3, i7, i8, z1, z2, z3, z4] <;> rfl)); (with_reducible first | exact c20 | exact c47); try first | rfl | (simp (disch := omega) only [push_cast, simprocAttr, hT, hrow, natNe, zI, zG, zJ, zM, Bool.true_and, zO, beq_self_eq_true, zP, Bool.not_true, zW, zC, hgT, heT, hb2, hb3, i7, i8, z1, z2, z3, z4] <;> rfl))
        | ((first | apply jn | apply jo | apply jl | apply jm | apply jf | apply jg | apply jh | apply ji | apply jj | apply jk | apply jd | apply je); (iterate 2 (try (simp (disch := omega) only [push_cast, simprocAttr, hT, hrow, natNe, zI, zG, zJ, zM, Bool.true_and, zO, beq_self_eq_true, zP, Bool.not_true, zW, zC, hgT, heT, hb2, hb3, i7, i8, z1, z2, z3, z4] <;> rfl))))

      all_goals (show _ = _; rfl)
    · have heF : (e = 0) = False := eq_false he
      obtain ⟨tf, htf⟩ : ∃ z, ts.getD f' 0 = z := ⟨_, rfl⟩
      obtain ⟨tt, htt⟩ : ∃ z, ts.getD t' 0 = z := ⟨_, rfl⟩
      rw [htf, htt] at i6
      rw [htf] at z1 z2 i3
      rw [htt] at z3 z4 i4
      have hb2 : (tt ≤ tf + b) = True := eq_true i6
      repeat' first
        | apply jA | apply jB | apply jC | apply jD | apply jE | apply jF | apply jG | apply jH | apply jI | apply jJ
        | refine W.draw cx_mixed (by decide +kernel) ?_
        | ((first | (apply jK cx_ok; decide) | (apply jL cx_ok; decide; decide) | apply jM cx_ok | (apply jN; rfl; decide) | (apply jO; rfl; decide; decide) | apply jR); (simp (disch := omega) only [push_cast, simprocAttr, hT, hrow, natNe, zI, zG, zJ, zM, Bool.true_and, zO, beq_self_eq_true, zP, Bool.not_true, zW, zC, hgT, heF, hb2, i7, i8, z1, z2, z3, z4] <;> rfl); all_goals try ((with_reducible intro hI); try first | (cases hI; done) | (simp only [INTS, zL] at hI; try first | (exfalso; omega) | (have hT : True := hI; clear hT hI))))
        | ((first | (apply jP; rfl; decide) | (apply jQ; rfl; decide; decide)); (simp (disch := omega) only [push_cast, simprocAttr, hT, hrow, natNe, zI, zG, zJ, zM, Bool.true_and, zO, beq_self_eq_true, zP, Bool.not_true, zW, zC, hgT, heF, hb2, i7, i8, z1, z2, z3, z4] <;> rfl))
        | ((first | (apply jV cx_ok; decide) | (apply jW cx_ok; decide; decide)); (iterate 2 (simp (disch := omega) only [push_cast, simprocAttr, hT, hrow, natNe, zI, zG, zJ, zM, Bool.true_and, zO, beq_self_eq_true, zP, Bool.not_true, zW, zC, hgT, heF, hb2, i7, i8, z1, z2, z3, z4] <;> rfl)); (with_reducible first | exact c20 | exact c47); try first | rfl | (simp (disch := omega) only [push_cast, simprocAttr, hT, hrow, natNe, zI, zG, zJ, zM, Bool.true_and, zO, beq_self_eq_true, zP, Bool.not_true, zW, zC, hgT, heF, hb2, i7, i8, z1, z2, z3, z4] <;> rfl))
        | ((first | apply jn | apply jo | apply jl | apply jm | apply jf | apply jg | apply jh | apply ji | apply jj | apply jk | apply jd | apply je); (iterate 2 (try (simp (disch := omega) only [push_cast, simprocAttr, hT, hrow, natNe, zI, zG, zJ, zM, Bool.true_and, zO, beq_self_eq_true, zP, Bool.not_true, zW, zC, hgT, heF, hb2, i7, i8, z1, z2, z3, z4] <;> rfl))))

      all_goals (show _ = _; rfl)
  · have hgF : (g = 0) = False := eq_false hg
    by_cases he : e = 0
    · have heT : (e = 0) = True := eq_true he
      obtain ⟨f', t', rfl, rfl, i1, i2, i3, i4, i5, i6⟩ := n2 he
      obtain ⟨z1, z2, _⟩ := getI (ts := ts) (i := f') i1
      obtain ⟨z3, z4, _⟩ := getI (ts := ts) (i := t') i2
      have i7 : (f' : Int) < (ts.length : Int) := by omega
      have i8 : (t' : Int) < (ts.length : Int) := by omega
      obtain ⟨tf, htf⟩ : ∃ z, ts.getD f' 0 = z := ⟨_, rfl⟩
      obtain ⟨tt, htt⟩ : ∃ z, ts.getD t' 0 = z := ⟨_, rfl⟩
      rw [htf, htt] at i6
      rw [htf] at z1 z2 i3
      rw [htt] at z3 z4 i4
      have hb3 : (tt ≤ tf + a) = True := eq_true i6
      repeat' first
        | apply jA | apply jB | apply jC | apply jD | apply jE | apply jF | apply jG | apply jH | apply jI | apply jJ
        | refine W.draw cx_mixed (by decide +kernel) ?_
        | ((first | (apply jK cx_ok; decide) | (apply jL cx_ok; decide; decide) | apply jM cx_ok | (apply jN; rfl; decide) | (apply jO; rfl; decide; decide) | apply jR); (simp (disch := omega) only [push_cast, simprocAttr, hT, hrow, natNe, zI, zG, zJ, zM, Bool.true_and, zO, beq_self_eq_true, zP, Bool.not_true, zW, zC, hgF, heT, hb3, i7, i8, z1, z2, z3, z4] <;> rfl); all_goals try ((with_reducible intro hI); try first | (cases hI; done) | (simp only [INTS, zL] at hI; try first | (exfalso; omega) | (have hT : True := hI; clear hT hI))))
        | ((first | (apply jP; rfl; decide) | (apply jQ; rfl; decide; decide)); (simp (disch := omega) only [push_cast, simprocAttr, hT, hrow, natNe, zI, zG, zJ, zM, Bool.true_and, zO, beq_self_eq_true, zP, Bool.not_true, zW, zC, hgF, heT, hb3, i7, i8, z1, z2, z3, z4] <;> rfl))
        | ((first | (apply jV cx_ok; decide) | (apply jW cx_ok; decide; decide)); (iterate 2 (simp (disch := omega) only [push_cast, simprocAttr, hT, hrow, natNe, zI, zG, zJ, zM, Bool.true_and, zO, beq_self_eq_true, zP, Bool.not_true, zW, zC, hgF, heT, hb3, i7, i8, z1, z2, z3, z4] <;> rfl)); (with_reducible first | exact c20 | exact c47); try first | rfl | (simp (disch := omega) only [push_cast, simprocAttr, hT, hrow, natNe, zI, zG, zJ, zM, Bool.true_and, zO, beq_self_eq_true, zP, Bool.not_true, zW, zC, hgF, heT, hb3, i7, i8, z1, z2, z3, z4] <;> rfl))
        | ((first | apply jn | apply jo | apply jl | apply jm | apply jf | apply jg | apply jh | apply ji | apply jj | apply jk | apply jd | apply je); (iterate 2 (try (simp (disch := omega) only [push_cast, simprocAttr, hT, hrow, natNe, zI, zG, zJ, zM, Bool.true_and, zO, beq_self_eq_true, zP, Bool.not_true, zW, zC, hgF, heT, hb3, i7, i8, z1, z2, z3, z4] <;> rfl))))

      all_goals (show _ = _; rfl)
    · have heF : (e = 0) = False := eq_false he
      repeat' first
        | apply jA | apply jB | apply jC | apply jD | apply jE | apply jF | apply jG | apply jH | apply jI | apply jJ
        | refine W.draw cx_mixed (by decide +kernel) ?_
        | ((first | (apply jK cx_ok; decide) | (apply jL cx_ok; decide; decide) | apply jM cx_ok | (apply jN; rfl; decide) | (apply jO; rfl; decide; decide) | apply jR); (simp (disch := omega) only [push_cast, simprocAttr, hT, hrow, natNe, zI, zG, zJ, zM, Bool.true_and, zO, beq_self_eq_true, zP, Bool.not_true, zW, zC, hgF, heF] <;> rfl); all_goals try ((with_reducible intro hI); try first | (cases hI; done) | (simp only [INTS, zL] at hI; try first | (exfalso; omega) | (have hT : True := hI; clear hT hI))))
        | ((first | (apply jP; rfl; decide) | (apply jQ; rfl; decide; decide)); (simp (disch := omega) only [push_cast, simprocAttr, hT, hrow, natNe, zI, zG, zJ, zM, Bool.true_and, zO, beq_self_eq_true, zP, Bool.not_true, zW, zC, hgF, heF] <;> rfl))
        | ((first | (apply jV cx_ok; decide) | (apply jW cx_ok; decide; decide)); (iterate 2 (simp (disch := omega) only [push_cast, simprocAttr, hT, hrow, natNe, zI, zG, zJ, zM, Bool.true_and, zO, beq_self_eq_true, zP, Bool.not_true, zW, zC, hgF, heF] <;> rfl)); (with_reducible first | exact c20 | exact c47); try first | rfl | (simp (disch := omega) only [push_cast, simprocAttr, hT, hrow, natNe, zI, zG, zJ, zM, Bool.true_and, zO, beq_self_eq_true, zP, Bool.not_true, zW, zC, hgF, heF] <;> rfl))
        | ((first | apply jn | apply jo | apply jl | apply jm | apply jf | apply jg | apply jh | apply ji | apply jj | apply jk | apply jd | apply je); (iterate 2 (try (simp (disch := omega) only [push_cast, simprocAttr, hT, hrow, natNe, zI, zG, zJ, zM, Bool.true_and, zO, beq_self_eq_true, zP, Bool.not_true, zW, zC, hgF, heF] <;> rfl))))

      all_goals (show _ = _; rfl)
end Go.Proofs.Ks
