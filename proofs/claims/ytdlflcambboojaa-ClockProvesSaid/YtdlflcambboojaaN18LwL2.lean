/-
  Contracts of functions, proved by going through their code. No conditions.
-/
import Derived.Test.YtdlflcambboojaaMaa
import Derived.Test.YtdlflcambboojaaN18LwL1
import Derived.Test.YtdlflcambboojaaN18LwK
set_option linter.unusedVariables false
set_option linter.unusedSimpArgs false
set_option maxHeartbeats 8000000
set_option maxRecDepth 10000
namespace Go.Proofs.Ks
open Go Go.Pg Go.Proofs
theorem law18_cons (r : Rec) (ts : List Int) (f t : Int) (wk cy st : List Int) (hc : checkE r = 0) (hq : consP r [] = true) (csm : OKv cx 19 [.agg (eRec r)] (ab true)) (l1 : ts.length ≤ 80) (l2 : wk.length ≤ 80) (l3 : cy.length ≤ 80) (l4 : st.length ≤ 20) : OKv cx 18 [.agg (eRec r), lInt ts, ai f, ai t, lInt wk, lInt cy, lInt st] (ab true) := by
  have hL : ¬ (80 : Int) < (ts.length : Int) ∧ ¬ (80 : Int) < (wk.length : Int) ∧ ¬ (80 : Int) < (cy.length : Int) ∧ ¬ (20 : Int) < (st.length : Int) := by omega
  have c73b := CheckPath_ok r f t wk (by omega)
  have c28 := CheckClash_ok r cy (by omega)
  have c53 := Fits_ok r st (by omega)
  have c47 := CheckTimes_ok r ts (by omega)
  have c59 := Tight_good r hc hq
  have c27 := Clash_none r hc hq
  have hcn := clash_not hc hq cy
  obtain ⟨C, hC⟩ : ∃ z, checkClashE r cy = z := ⟨_, rfl⟩
  rw [hC] at c28 hcn
  have hCF : (C = 0) = False := eq_false hcn
  obtain ⟨⟨b0, i0⟩, hF⟩ : ∃ z, fitsP r st = z := ⟨_, rfl⟩
  rw [hF] at c53
  dsimp only at c53
  have hN1 := fun h7 h => fine_of (r := r) (ts := ts) (f := f) (t := t) (l := wk) hc h7 h
  obtain ⟨C7, hC7⟩ : ∃ z, checkTimesE r ts = z := ⟨_, rfl⟩
  by_cases hin : inN r f ∧ inN r t
  · obtain ⟨hf, ht⟩ := hin
    obtain ⟨f', hf'⟩ := Int.eq_ofNat_of_zero_le hf.1
    obtain ⟨t', ht'⟩ := Int.eq_ofNat_of_zero_le ht.1
    have a0 := hf.2
    have b0' := ht.2
    have a1 : ¬ f < 0 := by omega
    have b1 : ¬ t < 0 := by omega
    have hpo : ∃ PL, OKv cx 74 [.agg (eRec r), ai f, ai t] (.tup [lInt PL, ai 0]) ∧ checkPathP r f t PL = (dst r f' t', 0) ∧ PL.length ≤ 50 := by
      subst hf'; subst ht'
      exact path_own hc hq hf ht
    obtain ⟨PL, c74, hpp, hpl⟩ := hpo
    have hN2 := fun h7 h => fine_of (r := r) (ts := ts) (f := f) (t := t) (l := PL) hc h7 h
    have c73a := CheckPath_ok r f t PL (by omega)
    rw [hpp] at c73a hN2
    dsimp only at c73a hN2
    have hbd := (dst_spec hc hq (s := f') (k := t') (by omega) (by omega)).2.2
    obtain ⟨row, t1, t2, t3⟩ := tri_rows hc hq (k := f') (by omega)
    have t4 := t3 t' (by omega)
    have htl := tightP_len r
    have hpl2 : (checkPathP r f t wk).2 = 0 → dst r f' t' ≤ (checkPathP r f t wk).1 := by
      subst hf'; subst ht'
      exact path_least hc hq
    obtain ⟨TT, hTT⟩ : ∃ z, tightP r = z := ⟨_, rfl⟩
    rw [hTT] at c59 t1 htl
    obtain ⟨dv, hdv⟩ : ∃ z, dst r f' t' = z := ⟨_, rfl⟩
    rw [hdv] at c73a hbd t4 hpl2 hN2
    obtain ⟨⟨w1, w2⟩, hB⟩ : ∃ z, checkPathP r f t wk = z := ⟨_, rfl⟩
    rw [hB] at c73b hpl2 hN1
    dsimp only at c73b hpl2 hN1
    have i1 : f < (TT.length : Int) := by omega
    have i2 : t < (row.length : Int) := by omega
    have i3 : f.toNat = f' := by omega
    have i4 : t.toNat = t' := by omega
    have i5 : 0 ≤ f := by omega
    have i6 : 0 ≤ t := by omega
    have u1 : (TT.map fun row => [lInt row])[f']? = some [lInt row] := by rw [List.getElem?_map, t1]; rfl
    have u2 : (TT.map fun row => [lInt row]).getD f' [] = [lInt row] := by rw [List.getD_eq_getElem?_getD, u1]; rfl
    have v1 : (row.map eInt)[t']? = some (eInt dv) := by rw [List.getElem?_map, t4]; rfl
    have v2 : (row.map eInt).getD t' [] = eInt dv := by rw [List.getD_eq_getElem?_getD, v1]; rfl
    have hX := And.intro hCF (And.intro i1 (And.intro i2 (And.intro i3 (And.intro i4 (And.intro u1 (And.intro u2 (And.intro v1 v2)))))))
    clear hCF i1 i2 i3 i4 u1 u2 v1 v2 t1 t3 t4 hf' ht' hTT hdv hpp
    by_cases hw0 : w2 = 0
    · have hwT : (w2 = 0) = True := eq_true hw0
      have hb1 : (w1 < dv) = False := eq_false (by have := hpl2 hw0; omega)
      refine OKat.of_body (rs := [14]) Try.func18 rfl (by decide +kernel) rfl (by simp [Try.ntmps18]) ?_
      simp only [Try.ntmps18]
      repeat' first
        | refine AW.seqS (y := tail18) ?_ | apply jA | apply jB | apply jC | apply jD | apply jE | apply jF | apply jG | apply jH | apply jI | apply jJ
        | refine W.draw cx_mixed (by decide +kernel) ?_
        | ((first | (apply jK cx_ok; decide) | (apply jL cx_ok; decide; decide) | (apply jN; rfl; decide) | (apply jO; rfl; decide; decide) | apply jR); (simp (disch := omega) only [push_cast, simprocAttr, hL, hX, a1, b1, i5, i6, hwT, hb1, natNe, zI, zG, zJ, zM, Bool.true_and, zO, beq_self_eq_true, zP, Bool.not_true, zW, zC] <;> rfl); all_goals try ((with_reducible intro hI); try first | (cases hI; done) | (simp only [INTS, zL] at hI; try first | (exfalso; omega) | (have hT : True := hI; clear hT hI))))
        | ((first | (apply jP; rfl; decide) | (apply jQ; rfl; decide; decide)); (simp (disch := omega) only [push_cast, simprocAttr, hL, hX, a1, b1, i5, i6, hwT, hb1, natNe, zI, zG, zJ, zM, Bool.true_and, zO, beq_self_eq_true, zP, Bool.not_true, zW, zC] <;> rfl))
        | ((first | (apply jV cx_ok; decide) | (apply jW cx_ok; decide; decide)); (iterate 2 (simp (disch := omega) only [push_cast, simprocAttr, hL, hX, a1, b1, i5, i6, hwT, hb1, natNe, zI, zG, zJ, zM, Bool.true_and, zO, beq_self_eq_true, zP, Bool.not_true, zW, zC] <;> rfl)); (with_reducible first | exact csm | exact c74 | exact c73a | exact c73b | exact c59 | exact c28 | exact c53 | exact c27 | exact c47); try first | rfl | (simp (disch := omega) only [push_cast, simprocAttr, hL, hX, a1, b1, i5, i6, hwT, hb1, natNe, zI, zG, zJ, zM, Bool.true_and, zO, beq_self_eq_true, zP, Bool.not_true, zW, zC] <;> rfl))
        | ((first | apply jf | apply jg); (iterate 2 (try (simp (disch := omega) only [push_cast, simprocAttr, hL, hX, a1, b1, i5, i6, hwT, hb1, natNe, zI, zG, zJ, zM, Bool.true_and, zO, beq_self_eq_true, zP, Bool.not_true, zW, zC] <;> rfl))))

      all_goals (refine Pg.Stop.mk (tail18_ok r ts f t l1 (e := (0 : Int)) (a := dv) (b := w1) (g := w2) (fun h7 => ⟨fun h => hN1 h7 h, fun h => hN2 h7 rfl⟩) ?_ ?_ ?_ ?_ ?_ ?_ ?_ ?_ ?_ ?_) <;> first | (simp (disch := omega) only [push_cast, simprocAttr, natNe, zI, zG, zJ, zM, Bool.true_and, zO, beq_self_eq_true, zP, Bool.not_true, zW, zC, hL, hX, a1, b1, i5, i6, hwT, hb1] <;> first | rfl | omega) | omega)
    · have hwF : (w2 = 0) = False := eq_false hw0
      refine OKat.of_body (rs := [14]) Try.func18 rfl (by decide +kernel) rfl (by simp [Try.ntmps18]) ?_
      simp only [Try.ntmps18]
      repeat' first
        | refine AW.seqS (y := tail18) ?_ | apply jA | apply jB | apply jC | apply jD | apply jE | apply jF | apply jG | apply jH | apply jI | apply jJ
        | refine W.draw cx_mixed (by decide +kernel) ?_
        | ((first | (apply jK cx_ok; decide) | (apply jL cx_ok; decide; decide) | (apply jN; rfl; decide) | (apply jO; rfl; decide; decide) | apply jR); (simp (disch := omega) only [push_cast, simprocAttr, hL, hX, a1, b1, i5, i6, hwF, natNe, zI, zG, zJ, zM, Bool.true_and, zO, beq_self_eq_true, zP, Bool.not_true, zW, zC] <;> rfl); all_goals try ((with_reducible intro hI); try first | (cases hI; done) | (simp only [INTS, zL] at hI; try first | (exfalso; omega) | (have hT : True := hI; clear hT hI))))
        | ((first | (apply jP; rfl; decide) | (apply jQ; rfl; decide; decide)); (simp (disch := omega) only [push_cast, simprocAttr, hL, hX, a1, b1, i5, i6, hwF, natNe, zI, zG, zJ, zM, Bool.true_and, zO, beq_self_eq_true, zP, Bool.not_true, zW, zC] <;> rfl))
        | ((first | (apply jV cx_ok; decide) | (apply jW cx_ok; decide; decide)); (iterate 2 (simp (disch := omega) only [push_cast, simprocAttr, hL, hX, a1, b1, i5, i6, hwF, natNe, zI, zG, zJ, zM, Bool.true_and, zO, beq_self_eq_true, zP, Bool.not_true, zW, zC] <;> rfl)); (with_reducible first | exact csm | exact c74 | exact c73a | exact c73b | exact c59 | exact c28 | exact c53 | exact c27 | exact c47); try first | rfl | (simp (disch := omega) only [push_cast, simprocAttr, hL, hX, a1, b1, i5, i6, hwF, natNe, zI, zG, zJ, zM, Bool.true_and, zO, beq_self_eq_true, zP, Bool.not_true, zW, zC] <;> rfl))
        | ((first | apply jf | apply jg); (iterate 2 (try (simp (disch := omega) only [push_cast, simprocAttr, hL, hX, a1, b1, i5, i6, hwF, natNe, zI, zG, zJ, zM, Bool.true_and, zO, beq_self_eq_true, zP, Bool.not_true, zW, zC] <;> rfl))))

      all_goals (refine Pg.Stop.mk (tail18_ok r ts f t l1 (e := (0 : Int)) (a := dv) (b := w1) (g := w2) (fun h7 => ⟨fun h => hN1 h7 h, fun h => hN2 h7 rfl⟩) ?_ ?_ ?_ ?_ ?_ ?_ ?_ ?_ ?_ ?_) <;> first | (simp (disch := omega) only [push_cast, simprocAttr, natNe, zI, zG, zJ, zM, Bool.true_and, zO, beq_self_eq_true, zP, Bool.not_true, zW, zC, hL, hX, a1, b1, i5, i6, hwF] <;> first | rfl | omega) | omega)
  · have c74 := Path_arg r f t hc hin
    have c73a : OKv cx 73 [.agg (eRec r), ai f, ai t, .lst []] (.tup [ai (checkPathP r f t []).1, ai (checkPathP r f t []).2]) := CheckPath_ok r f t [] (by decide)
    rw [show checkPathP r f t [] = (0, 1) by unfold checkPathP; rw [if_pos hc, if_neg hin]] at c73a
    rw [show checkPathP r f t wk = (0, 1) by unfold checkPathP; rw [if_pos hc, if_neg hin]] at c73b
    dsimp only at c73a c73b
    obtain ⟨TT, hTT⟩ : ∃ z, tightP r = z := ⟨_, rfl⟩
    rw [hTT] at c59
    refine OKat.of_body (rs := [14]) Try.func18 rfl (by decide +kernel) rfl (by simp [Try.ntmps18]) ?_
    simp only [Try.ntmps18]
    repeat' first
      | refine AW.seqS (y := tail18) ?_ | apply jA | apply jB | apply jC | apply jD | apply jE | apply jF | apply jG | apply jH | apply jI | apply jJ
      | refine W.draw cx_mixed (by decide +kernel) ?_
      | ((first | (apply jK cx_ok; decide) | (apply jL cx_ok; decide; decide) | (apply jN; rfl; decide) | (apply jO; rfl; decide; decide) | apply jR); (simp (disch := omega) only [push_cast, simprocAttr, hL, hCF, natNe, zI, zG, zJ, zM, Bool.true_and, zO, beq_self_eq_true, zP, Bool.not_true, zW, zC] <;> rfl); all_goals try ((with_reducible intro hI); try first | (cases hI; done) | (simp only [INTS, zL] at hI; try first | (exfalso; omega) | (have hT : True := hI; clear hT hI))))
      | ((first | (apply jP; rfl; decide) | (apply jQ; rfl; decide; decide)); (simp (disch := omega) only [push_cast, simprocAttr, hL, hCF, natNe, zI, zG, zJ, zM, Bool.true_and, zO, beq_self_eq_true, zP, Bool.not_true, zW, zC] <;> rfl))
      | ((first | (apply jV cx_ok; decide) | (apply jW cx_ok; decide; decide)); (iterate 2 (simp (disch := omega) only [push_cast, simprocAttr, hL, hCF, natNe, zI, zG, zJ, zM, Bool.true_and, zO, beq_self_eq_true, zP, Bool.not_true, zW, zC] <;> rfl)); (with_reducible first | exact csm | exact c74 | exact c73a | exact c73b | exact c59 | exact c28 | exact c53 | exact c27 | exact c47); try first | rfl | (simp (disch := omega) only [push_cast, simprocAttr, hL, hCF, natNe, zI, zG, zJ, zM, Bool.true_and, zO, beq_self_eq_true, zP, Bool.not_true, zW, zC] <;> rfl))
      | ((first | apply jf | apply jg); (iterate 2 (try (simp (disch := omega) only [push_cast, simprocAttr, hL, hCF, natNe, zI, zG, zJ, zM, Bool.true_and, zO, beq_self_eq_true, zP, Bool.not_true, zW, zC] <;> rfl))))

    all_goals (refine Pg.Stop.mk (tail18_ok r ts f t l1 (e := (1 : Int)) (a := (0 : Int)) (b := (0 : Int)) (g := (1 : Int)) (fun h7 => ⟨(fun h => by cases h), (fun h => by cases h)⟩) ?_ ?_ ?_ ?_ ?_ ?_ ?_ ?_ ?_ ?_) <;> first | (simp (disch := omega) only [push_cast, simprocAttr, natNe, zI, zG, zJ, zM, Bool.true_and, zO, beq_self_eq_true, zP, Bool.not_true, zW, zC, hL, hCF] <;> first | rfl | omega) | omega)
end Go.Proofs.Ks
