/-
  Contracts of functions, proved by going through their code. No conditions.
-/
import Derived.Test.YtdlflcambboojaaKaa
import Derived.Test.YtdlflcambboojaaKbf
import Derived.Test.YtdlflcambboojaaKuE2
import Derived.Test.YtdlflcambboojaaKuG
import Derived.Test.YtdlflcambboojaaLwA
set_option linter.unusedVariables false
set_option linter.unusedSimpArgs false
set_option maxHeartbeats 8000000
set_option maxRecDepth 10000
namespace Go.Proofs.Ks
open Go Go.Pg Go.Proofs
noncomputable def tail16 : Code := dropS 11 (Try.f16.body.getD .skip)
def PathIs (r : Rec) (f t : Nat) (PL : List Int) (e : Int) : Prop :=
  (consP r [] = false ∧ PL = [] ∧ e = 9) ∨ (consP r [] = true ∧ e = 0 ∧ walkF (linksR r []) PL (f : Int) 0 = ((t : Int), dst r f t, true) ∧ (∀ q ∈ PL, 0 ≤ q ∧ q < ((linksR r []).length : Int)) ∧ (PL.map fun q => (lkAt (linksR r []) q).b).Nodup ∧ PL.length ≤ (nodesR r []).length ∧ (f = t → PL = []))
theorem path_is {r : Rec} (hc : checkE r = 0) {f t : Nat} (hf : inN r f) (ht : inN r t) : ∃ PL e, OKv cx 74 [.agg (eRec r), ai f, ai t] (.tup [lInt PL, ai e]) ∧ PathIs r f t PL e := by
  cases hq : consP r [] with
  | false => exact ⟨[], 9, Path_clash r f t hc hf ht hq, .inl ⟨hq, rfl, rfl⟩⟩
  | true =>
    obtain ⟨OUT, o1, o2, o3, o4, o5, o6⟩ := path_some hc hq (s := f) (v := t) (by have := hf.2; omega) (by have := ht.2; omega)
    exact ⟨OUT.reverse, 0, Path_good r f t hc hf ht hq o1, .inr ⟨hq, rfl, o2, o3, o4, by rw [List.length_reverse]; exact o5, fun e => by rw [o6 e]; rfl⟩⟩
theorem tail16_ok (r : Rec) (f t : Nat) (hc : checkE r = 0) (hf : inN r f) (ht : inN r t) {PL : List Int} {e : Int} (hP : PathIs r f t PL e) {s : St} (t1 : s.tm 1 = ai f) (t2 : s.tm 2 = ai t) (t4 : s.tm 4 = .ptr 0 0 0 1) (t12 : s.tm 12 = lInt PL) (t13 : s.tm 13 = ai e) (hrow : Pg.rowAt s.H 0 = some { k := 14, es := [eRec r], ty := 30 }) (hnx : 1 ≤ s.nx) :
    AW cx 186 tail16 (endQ [8] fun x => x = ab true) s := by
  have hv := checkE_V hc
  have c20 := sanity_ok
  have hf1 := hf.2
  have ht1 := ht.2
  delta tail16
  simp only [Try.f16, Option.getD_some, dropS]
  rcases hP with ⟨hq, rfl, rfl⟩ | ⟨hq, rfl, p1, p2, p3, p4, p5⟩
  · have hno : tightR r [] = none := by
      rcases tight_prog hv (more := []) (by decide) nomore with ⟨o, _, e, _⟩ | ⟨e, _⟩
      · rw [hq] at e; cases e
      · exact e
    have c62 : OKv cx 62 [.agg (eRec r), .lst []] (.tup [.lst [], ab false]) := Tight_none r [] hv (by decide) nomore hno
    repeat' first
      | apply jA | apply jB | apply jC | apply jD | apply jE | apply jF | apply jG | apply jH | apply jI | apply jJ
      | refine W.draw cx_mixed (by decide +kernel) ?_
      | ((first | (apply jK cx_ok; decide) | (apply jL cx_ok; decide; decide) | apply jM cx_ok | (apply jN; rfl; decide) | (apply jO; rfl; decide; decide) | apply jR); (simp (disch := omega) only [push_cast, simprocAttr, t1, t2, t4, t12, t13, hrow, natNe, zI, zG, zJ, zM, Bool.true_and, zO, beq_self_eq_true, zP, Bool.not_true, zW, zC] <;> rfl); all_goals try ((with_reducible intro hI); try first | (cases hI; done) | (simp only [INTS, zL] at hI; try first | (exfalso; omega) | (have hT : True := hI; clear hT hI))))
      | ((first | (apply jP; rfl; decide) | (apply jQ; rfl; decide; decide)); (simp (disch := omega) only [push_cast, simprocAttr, t1, t2, t4, t12, t13, hrow, natNe, zI, zG, zJ, zM, Bool.true_and, zO, beq_self_eq_true, zP, Bool.not_true, zW, zC] <;> rfl))
      | ((first | (apply jV cx_ok; decide) | (apply jW cx_ok; decide; decide)); (iterate 2 (simp (disch := omega) only [push_cast, simprocAttr, t1, t2, t4, t12, t13, hrow, natNe, zI, zG, zJ, zM, Bool.true_and, zO, beq_self_eq_true, zP, Bool.not_true, zW, zC] <;> rfl)); (with_reducible first | exact c62 | exact c20); try first | rfl | (simp (disch := omega) only [push_cast, simprocAttr, t1, t2, t4, t12, t13, hrow, natNe, zI, zG, zJ, zM, Bool.true_and, zO, beq_self_eq_true, zP, Bool.not_true, zW, zC] <;> rfl))
      | ((first | apply jn | apply jo | apply jl | apply jm | apply jf | apply jg | apply jh | apply ji | apply jj | apply jk | apply jd | apply je); (iterate 2 (try (simp (disch := omega) only [push_cast, simprocAttr, t1, t2, t4, t12, t13, hrow, natNe, zI, zG, zJ, zM, Bool.true_and, zO, beq_self_eq_true, zP, Bool.not_true, zW, zC] <;> rfl))))

    all_goals (show _ = _; rfl)
  · obtain ⟨c62, hd', hn⟩ := tight_facts hc hq
    have c75 := RWalk_ok r hv PL (f : Int) (by omega)
    rw [p1] at c75
    have c75 : OKv cx 75 [.agg (eRec r), ai f, lInt PL] (.tup [ai t, ai (dst r f t)]) := c75
    have c31 := RSimple_ok r hv PL (by omega) p2 p3
    have hm := tightP_mget (r := r) (i := f) (k := t) (by omega)
    have hl1 := hd'.1
    have hl2 := hd'.2 f (by omega)
    unfold mget at hm
    obtain ⟨TT, hTT⟩ : ∃ z, tightP r = z := ⟨_, rfl⟩
    rw [hTT] at hm hl1 hl2 c62
    obtain ⟨row, hrw⟩ : ∃ z, TT.getD f [] = z := ⟨_, rfl⟩
    rw [hrw] at hm hl2
    obtain ⟨v, hvv⟩ : ∃ z, dst r f t = z := ⟨_, rfl⟩
    rw [hvv] at hm c75
    have u1 : (TT.map fun row => [lInt row])[f]? = some [lInt row] := by rw [List.getElem?_map, (by rw [← hrw, List.getD_eq_getElem?_getD, List.getElem?_eq_getElem (show f < TT.length by omega)]; rfl : TT[f]? = some row)]; rfl
    have u2 : (TT.map fun row => [lInt row]).getD f [] = [lInt row] := by rw [List.getD_eq_getElem?_getD, u1]; rfl
    have v1 : (row.map eInt)[t]? = some (eInt v) := by rw [List.getElem?_map, (by rw [← hm, List.getD_eq_getElem?_getD, List.getElem?_eq_getElem (show t < row.length by omega)]; rfl : row[t]? = some v)]; rfl
    have v2 : (row.map eInt).getD t [] = eInt v := by rw [List.getD_eq_getElem?_getD, v1]; rfl
    have i1 : (f : Int) < (TT.length : Int) := by omega
    have i2 : (t : Int) < (row.length : Int) := by omega
    by_cases hft : f = t
    · have hPL := p5 hft
      subst hPL
      have c75 : OKv cx 75 [.agg (eRec r), ai f, .lst []] (.tup [ai t, ai v]) := c75
      have c31 : OKv cx 31 [.agg (eRec r), .lst []] (ab true) := c31
      have hftT : ((f : Int) = (t : Int)) = True := eq_true (by omega)
      repeat' first
        | apply jA | apply jB | apply jC | apply jD | apply jE | apply jF | apply jG | apply jH | apply jI | apply jJ
        | refine W.draw cx_mixed (by decide +kernel) ?_
        | ((first | (apply jK cx_ok; decide) | (apply jL cx_ok; decide; decide) | apply jM cx_ok | (apply jN; rfl; decide) | (apply jO; rfl; decide; decide) | apply jR); (simp (disch := omega) only [push_cast, simprocAttr, t1, t2, t4, t12, t13, hrow, natNe, zI, zG, zJ, zM, Bool.true_and, zO, beq_self_eq_true, zP, Bool.not_true, zW, zC, u1, u2, v1, v2, i1, i2, hftT] <;> rfl); all_goals try ((with_reducible intro hI); try first | (cases hI; done) | (simp only [INTS, zL] at hI; try first | (exfalso; omega) | (have hT : True := hI; clear hT hI))))
        | ((first | (apply jP; rfl; decide) | (apply jQ; rfl; decide; decide)); (simp (disch := omega) only [push_cast, simprocAttr, t1, t2, t4, t12, t13, hrow, natNe, zI, zG, zJ, zM, Bool.true_and, zO, beq_self_eq_true, zP, Bool.not_true, zW, zC, u1, u2, v1, v2, i1, i2, hftT] <;> rfl))
        | ((first | (apply jV cx_ok; decide) | (apply jW cx_ok; decide; decide)); (iterate 2 (simp (disch := omega) only [push_cast, simprocAttr, t1, t2, t4, t12, t13, hrow, natNe, zI, zG, zJ, zM, Bool.true_and, zO, beq_self_eq_true, zP, Bool.not_true, zW, zC, u1, u2, v1, v2, i1, i2, hftT] <;> rfl)); (with_reducible first | exact c62 | exact c20 | exact c75 | exact c31); try first | rfl | (simp (disch := omega) only [push_cast, simprocAttr, t1, t2, t4, t12, t13, hrow, natNe, zI, zG, zJ, zM, Bool.true_and, zO, beq_self_eq_true, zP, Bool.not_true, zW, zC, u1, u2, v1, v2, i1, i2, hftT] <;> rfl))
        | ((first | apply jn | apply jo | apply jl | apply jm | apply jf | apply jg | apply jh | apply ji | apply jj | apply jk | apply jd | apply je); (iterate 2 (try (simp (disch := omega) only [push_cast, simprocAttr, t1, t2, t4, t12, t13, hrow, natNe, zI, zG, zJ, zM, Bool.true_and, zO, beq_self_eq_true, zP, Bool.not_true, zW, zC, u1, u2, v1, v2, i1, i2, hftT] <;> rfl))))

      all_goals (show _ = _; rfl)
    · have hftF : ((f : Int) = (t : Int)) = False := eq_false (by omega)
      repeat' first
        | apply jA | apply jB | apply jC | apply jD | apply jE | apply jF | apply jG | apply jH | apply jI | apply jJ
        | refine W.draw cx_mixed (by decide +kernel) ?_
        | ((first | (apply jK cx_ok; decide) | (apply jL cx_ok; decide; decide) | apply jM cx_ok | (apply jN; rfl; decide) | (apply jO; rfl; decide; decide) | apply jR); (simp (disch := omega) only [push_cast, simprocAttr, t1, t2, t4, t12, t13, hrow, natNe, zI, zG, zJ, zM, Bool.true_and, zO, beq_self_eq_true, zP, Bool.not_true, zW, zC, u1, u2, v1, v2, i1, i2, hftF] <;> rfl); all_goals try ((with_reducible intro hI); try first | (cases hI; done) | (simp only [INTS, zL] at hI; try first | (exfalso; omega) | (have hT : True := hI; clear hT hI))))
        | ((first | (apply jP; rfl; decide) | (apply jQ; rfl; decide; decide)); (simp (disch := omega) only [push_cast, simprocAttr, t1, t2, t4, t12, t13, hrow, natNe, zI, zG, zJ, zM, Bool.true_and, zO, beq_self_eq_true, zP, Bool.not_true, zW, zC, u1, u2, v1, v2, i1, i2, hftF] <;> rfl))
        | ((first | (apply jV cx_ok; decide) | (apply jW cx_ok; decide; decide)); (iterate 2 (simp (disch := omega) only [push_cast, simprocAttr, t1, t2, t4, t12, t13, hrow, natNe, zI, zG, zJ, zM, Bool.true_and, zO, beq_self_eq_true, zP, Bool.not_true, zW, zC, u1, u2, v1, v2, i1, i2, hftF] <;> rfl)); (with_reducible first | exact c62 | exact c20 | exact c75 | exact c31); try first | rfl | (simp (disch := omega) only [push_cast, simprocAttr, t1, t2, t4, t12, t13, hrow, natNe, zI, zG, zJ, zM, Bool.true_and, zO, beq_self_eq_true, zP, Bool.not_true, zW, zC, u1, u2, v1, v2, i1, i2, hftF] <;> rfl))
        | ((first | apply jn | apply jo | apply jl | apply jm | apply jf | apply jg | apply jh | apply ji | apply jj | apply jk | apply jd | apply je); (iterate 2 (try (simp (disch := omega) only [push_cast, simprocAttr, t1, t2, t4, t12, t13, hrow, natNe, zI, zG, zJ, zM, Bool.true_and, zO, beq_self_eq_true, zP, Bool.not_true, zW, zC, u1, u2, v1, v2, i1, i2, hftF] <;> rfl))))

      all_goals (show _ = _; rfl)
theorem law16_ok (r : Rec) (f t : Int) (l : List Int) : OKv cx 16 [.agg (eRec r), ai f, ai t, lInt l] (ab true) := by
  have csm := small_ok r
  have c20 := sanity_ok
  cases hsm : smallB r with
  | false =>
    rw [hsm] at csm
    refine OKat.of_body (rs := [8]) Try.func16 rfl (by decide +kernel) rfl (by simp [Try.ntmps16]) ?_
    simp only [Try.ntmps16]
    repeat' first
      | apply jA | apply jB | apply jC | apply jD | apply jE | apply jF | apply jG | apply jH | apply jI
      | ((first | (apply jK cx_ok; decide) | (apply jN; rfl; decide) | apply jR); (simp (disch := omega) only [push_cast, simprocAttr] <;> rfl); all_goals try ((with_reducible intro hI); try first | (cases hI; done) | (simp only [INTS, zL] at hI; try first | (exfalso; omega) | (have hT : True := hI; clear hT hI))))
      | ((apply jP; rfl; decide); (simp (disch := omega) only [push_cast, simprocAttr] <;> rfl))
      | ((apply jV cx_ok; decide); (iterate 2 (simp (disch := omega) only [push_cast, simprocAttr] <;> rfl)); (with_reducible first | exact csm | exact c20); try first | rfl | (simp (disch := omega) only [push_cast, simprocAttr] <;> rfl))
      | ((first | apply jf | apply jg); (iterate 2 (try (simp (disch := omega) only [push_cast, simprocAttr] <;> rfl))))

    all_goals (show _ = _; rfl)
  | true =>
    rw [hsm] at csm
    by_cases hl : 80 < l.length
    · have hlI : (80 : Int) < (l.length : Int) := by omega
      refine OKat.of_body (rs := [8]) Try.func16 rfl (by decide +kernel) rfl (by simp [Try.ntmps16]) ?_
      simp only [Try.ntmps16]
      repeat' first
        | apply jA | apply jB | apply jC | apply jD | apply jE | apply jF | apply jG | apply jH | apply jI
        | ((first | (apply jK cx_ok; decide) | (apply jN; rfl; decide) | apply jR); (simp (disch := omega) only [push_cast, simprocAttr, hlI] <;> rfl); all_goals try ((with_reducible intro hI); try first | (cases hI; done) | (simp only [INTS, zL] at hI; try first | (exfalso; omega) | (have hT : True := hI; clear hT hI))))
        | ((apply jP; rfl; decide); (simp (disch := omega) only [push_cast, simprocAttr, hlI] <;> rfl))
        | ((apply jV cx_ok; decide); (iterate 2 (simp (disch := omega) only [push_cast, simprocAttr, hlI] <;> rfl)); (with_reducible first | exact csm | exact c20); try first | rfl | (simp (disch := omega) only [push_cast, simprocAttr, hlI] <;> rfl))
        | ((first | apply jf | apply jg); (iterate 2 (try (simp (disch := omega) only [push_cast, simprocAttr, hlI] <;> rfl))))

      all_goals (show _ = _; rfl)
    · have hlI : ¬ (80 : Int) < (l.length : Int) := by omega
      have c73 := CheckPath_ok r f t l (by omega)
      unfold checkPathP at c73
      by_cases hc : checkE r = 0
      · have hv := checkE_V hc
        rw [if_pos hc] at c73
        have c46 := rNodes_ok r hv
        have c75 := RWalk_ok r hv l f (by omega)
        by_cases hin : inN r f ∧ inN r t
        · rw [if_pos hin] at c73
          obtain ⟨hf, ht⟩ := hin
          obtain ⟨f, rfl⟩ := Int.eq_ofNat_of_zero_le hf.1
          obtain ⟨t, rfl⟩ := Int.eq_ofNat_of_zero_le ht.1
          have a0 := hf.2
          have b0 := ht.2
          have a1 : ¬ (f : Int) < 0 := by omega
          have b1 : ¬ (t : Int) < 0 := by omega
          obtain ⟨PL, e, c74, hP⟩ := path_is hc hf ht
          obtain ⟨⟨e1, e2, e3⟩, hE⟩ : ∃ z, walkF (linksR r []) l (f : Int) 0 = z := ⟨_, rfl⟩
          rw [hE] at c73 c75
          dsimp only at c73
          by_cases hl6 : 60 < l.length
          · have hl6I : (60 : Int) < (l.length : Int) := by omega
            rw [if_pos hl6] at c73
            obtain ⟨⟨r1, r2⟩, hR⟩ : ∃ z, rwalkF (e1, e2, e3) = z := ⟨_, rfl⟩
            rw [hR] at c75
            dsimp only at c75
            refine OKat.of_body (rs := [8]) Try.func16 rfl (by decide +kernel) rfl (by simp [Try.ntmps16]) ?_
            simp only [Try.ntmps16]
            repeat' first
              | refine AW.seqS (y := tail16) ?_ | apply jA | apply jB | apply jC | apply jD | apply jE | apply jF | apply jG | apply jH | apply jI
              | ((first | (apply jK cx_ok; decide) | (apply jN; rfl; decide) | apply jR); (simp (disch := omega) only [push_cast, simprocAttr, natNe, zI, zG, zJ, zM, Bool.true_and, zO, beq_self_eq_true, zP, Bool.not_true, zW, zC, hc, hlI, a0, a1, b0, b1, hl6I] <;> rfl); all_goals try ((with_reducible intro hI); try first | (cases hI; done) | (simp only [INTS, zL] at hI; try first | (exfalso; omega) | (have hT : True := hI; clear hT hI))))
              | ((apply jP; rfl; decide); (simp (disch := omega) only [push_cast, simprocAttr, natNe, zI, zG, zJ, zM, Bool.true_and, zO, beq_self_eq_true, zP, Bool.not_true, zW, zC, hc, hlI, a0, a1, b0, b1, hl6I] <;> rfl))
              | ((apply jV cx_ok; decide); (iterate 2 (simp (disch := omega) only [push_cast, simprocAttr, natNe, zI, zG, zJ, zM, Bool.true_and, zO, beq_self_eq_true, zP, Bool.not_true, zW, zC, hc, hlI, a0, a1, b0, b1, hl6I] <;> rfl)); (with_reducible first | exact csm | exact RCheck_ok r | exact c46 | exact c73 | exact c74 | exact c75); try first | rfl | (simp (disch := omega) only [push_cast, simprocAttr, natNe, zI, zG, zJ, zM, Bool.true_and, zO, beq_self_eq_true, zP, Bool.not_true, zW, zC, hc, hlI, a0, a1, b0, b1, hl6I] <;> rfl))
              | ((first | apply jf | apply jg); (iterate 2 (try (simp (disch := omega) only [push_cast, simprocAttr, natNe, zI, zG, zJ, zM, Bool.true_and, zO, beq_self_eq_true, zP, Bool.not_true, zW, zC, hc, hlI, a0, a1, b0, b1, hl6I] <;> rfl))))

            all_goals first
              | (refine Pg.Stop.mk (tail16_ok r f t hc hf ht hP ?_ ?_ ?_ ?_ ?_ ?_ ?_) <;> first | (simp (disch := omega) only [push_cast, simprocAttr, natNe, zI, zG, zJ, zM, Bool.true_and, zO, beq_self_eq_true, zP, Bool.not_true, zW, zC, hc, hlI, hl6I] <;> first | rfl | omega) | omega)
              | (exfalso; omega)
          · have hl6I : ¬ (60 : Int) < (l.length : Int) := by omega
            rw [if_neg hl6] at c73
            rcases e3 with _ | _
            · have c75 : OKv cx 75 [.agg (eRec r), ai f, lInt l] (.tup [ai (-1), ai 0]) := c75
              rw [if_neg (by simp)] at c73
              have hq1 : ((-1 : Int) = (t : Int)) = False := eq_false (by omega)
              refine OKat.of_body (rs := [8]) Try.func16 rfl (by decide +kernel) rfl (by simp [Try.ntmps16]) ?_
              simp only [Try.ntmps16]
              repeat' first
                | refine AW.seqS (y := tail16) ?_ | apply jA | apply jB | apply jC | apply jD | apply jE | apply jF | apply jG | apply jH | apply jI
                | ((first | (apply jK cx_ok; decide) | (apply jN; rfl; decide) | apply jR); (simp (disch := omega) only [push_cast, simprocAttr, natNe, zI, zG, zJ, zM, Bool.true_and, zO, beq_self_eq_true, zP, Bool.not_true, zW, zC, hc, hlI, a0, a1, b0, b1, hl6I, hq1] <;> rfl); all_goals try ((with_reducible intro hI); try first | (cases hI; done) | (simp only [INTS, zL] at hI; try first | (exfalso; omega) | (have hT : True := hI; clear hT hI))))
                | ((apply jP; rfl; decide); (simp (disch := omega) only [push_cast, simprocAttr, natNe, zI, zG, zJ, zM, Bool.true_and, zO, beq_self_eq_true, zP, Bool.not_true, zW, zC, hc, hlI, a0, a1, b0, b1, hl6I, hq1] <;> rfl))
                | ((apply jV cx_ok; decide); (iterate 2 (simp (disch := omega) only [push_cast, simprocAttr, natNe, zI, zG, zJ, zM, Bool.true_and, zO, beq_self_eq_true, zP, Bool.not_true, zW, zC, hc, hlI, a0, a1, b0, b1, hl6I, hq1] <;> rfl)); (with_reducible first | exact csm | exact RCheck_ok r | exact c46 | exact c73 | exact c74 | exact c75); try first | rfl | (simp (disch := omega) only [push_cast, simprocAttr, natNe, zI, zG, zJ, zM, Bool.true_and, zO, beq_self_eq_true, zP, Bool.not_true, zW, zC, hc, hlI, a0, a1, b0, b1, hl6I, hq1] <;> rfl))
                | ((first | apply jf | apply jg); (iterate 2 (try (simp (disch := omega) only [push_cast, simprocAttr, natNe, zI, zG, zJ, zM, Bool.true_and, zO, beq_self_eq_true, zP, Bool.not_true, zW, zC, hc, hlI, a0, a1, b0, b1, hl6I, hq1] <;> rfl))))

              all_goals first
                | (refine Pg.Stop.mk (tail16_ok r f t hc hf ht hP ?_ ?_ ?_ ?_ ?_ ?_ ?_) <;> first | (simp (disch := omega) only [push_cast, simprocAttr, natNe, zI, zG, zJ, zM, Bool.true_and, zO, beq_self_eq_true, zP, Bool.not_true, zW, zC, hc, hlI, hl6I, hq1] <;> first | rfl | omega) | omega)
                | (exfalso; omega)
            · have c75 : OKv cx 75 [.agg (eRec r), ai f, lInt l] (.tup [ai e1, ai e2]) := c75
              by_cases q1 : e1 = (t : Int)
              · subst q1
                rw [if_pos ⟨rfl, rfl⟩] at c73
                refine OKat.of_body (rs := [8]) Try.func16 rfl (by decide +kernel) rfl (by simp [Try.ntmps16]) ?_
                simp only [Try.ntmps16]
                repeat' first
                  | refine AW.seqS (y := tail16) ?_ | apply jA | apply jB | apply jC | apply jD | apply jE | apply jF | apply jG | apply jH | apply jI
                  | ((first | (apply jK cx_ok; decide) | (apply jN; rfl; decide) | apply jR); (simp (disch := omega) only [push_cast, simprocAttr, natNe, zI, zG, zJ, zM, Bool.true_and, zO, beq_self_eq_true, zP, Bool.not_true, zW, zC, hc, hlI, a0, a1, b0, b1, hl6I] <;> rfl); all_goals try ((with_reducible intro hI); try first | (cases hI; done) | (simp only [INTS, zL] at hI; try first | (exfalso; omega) | (have hT : True := hI; clear hT hI))))
                  | ((apply jP; rfl; decide); (simp (disch := omega) only [push_cast, simprocAttr, natNe, zI, zG, zJ, zM, Bool.true_and, zO, beq_self_eq_true, zP, Bool.not_true, zW, zC, hc, hlI, a0, a1, b0, b1, hl6I] <;> rfl))
                  | ((apply jV cx_ok; decide); (iterate 2 (simp (disch := omega) only [push_cast, simprocAttr, natNe, zI, zG, zJ, zM, Bool.true_and, zO, beq_self_eq_true, zP, Bool.not_true, zW, zC, hc, hlI, a0, a1, b0, b1, hl6I] <;> rfl)); (with_reducible first | exact csm | exact RCheck_ok r | exact c46 | exact c73 | exact c74 | exact c75); try first | rfl | (simp (disch := omega) only [push_cast, simprocAttr, natNe, zI, zG, zJ, zM, Bool.true_and, zO, beq_self_eq_true, zP, Bool.not_true, zW, zC, hc, hlI, a0, a1, b0, b1, hl6I] <;> rfl))
                  | ((first | apply jf | apply jg); (iterate 2 (try (simp (disch := omega) only [push_cast, simprocAttr, natNe, zI, zG, zJ, zM, Bool.true_and, zO, beq_self_eq_true, zP, Bool.not_true, zW, zC, hc, hlI, a0, a1, b0, b1, hl6I] <;> rfl))))

                all_goals first
                  | (refine Pg.Stop.mk (tail16_ok r f t hc hf ht hP ?_ ?_ ?_ ?_ ?_ ?_ ?_) <;> first | (simp (disch := omega) only [push_cast, simprocAttr, natNe, zI, zG, zJ, zM, Bool.true_and, zO, beq_self_eq_true, zP, Bool.not_true, zW, zC, hc, hlI, hl6I] <;> first | rfl | omega) | omega)
                  | (exfalso; omega)
              · have hq1 : (e1 = (t : Int)) = False := eq_false q1
                rw [if_neg (fun h => q1 h.2)] at c73
                refine OKat.of_body (rs := [8]) Try.func16 rfl (by decide +kernel) rfl (by simp [Try.ntmps16]) ?_
                simp only [Try.ntmps16]
                repeat' first
                  | refine AW.seqS (y := tail16) ?_ | apply jA | apply jB | apply jC | apply jD | apply jE | apply jF | apply jG | apply jH | apply jI
                  | ((first | (apply jK cx_ok; decide) | (apply jN; rfl; decide) | apply jR); (simp (disch := omega) only [push_cast, simprocAttr, natNe, zI, zG, zJ, zM, Bool.true_and, zO, beq_self_eq_true, zP, Bool.not_true, zW, zC, hc, hlI, a0, a1, b0, b1, hl6I, hq1] <;> rfl); all_goals try ((with_reducible intro hI); try first | (cases hI; done) | (simp only [INTS, zL] at hI; try first | (exfalso; omega) | (have hT : True := hI; clear hT hI))))
                  | ((apply jP; rfl; decide); (simp (disch := omega) only [push_cast, simprocAttr, natNe, zI, zG, zJ, zM, Bool.true_and, zO, beq_self_eq_true, zP, Bool.not_true, zW, zC, hc, hlI, a0, a1, b0, b1, hl6I, hq1] <;> rfl))
                  | ((apply jV cx_ok; decide); (iterate 2 (simp (disch := omega) only [push_cast, simprocAttr, natNe, zI, zG, zJ, zM, Bool.true_and, zO, beq_self_eq_true, zP, Bool.not_true, zW, zC, hc, hlI, a0, a1, b0, b1, hl6I, hq1] <;> rfl)); (with_reducible first | exact csm | exact RCheck_ok r | exact c46 | exact c73 | exact c74 | exact c75); try first | rfl | (simp (disch := omega) only [push_cast, simprocAttr, natNe, zI, zG, zJ, zM, Bool.true_and, zO, beq_self_eq_true, zP, Bool.not_true, zW, zC, hc, hlI, a0, a1, b0, b1, hl6I, hq1] <;> rfl))
                  | ((first | apply jf | apply jg); (iterate 2 (try (simp (disch := omega) only [push_cast, simprocAttr, natNe, zI, zG, zJ, zM, Bool.true_and, zO, beq_self_eq_true, zP, Bool.not_true, zW, zC, hc, hlI, a0, a1, b0, b1, hl6I, hq1] <;> rfl))))

                all_goals first
                  | (refine Pg.Stop.mk (tail16_ok r f t hc hf ht hP ?_ ?_ ?_ ?_ ?_ ?_ ?_) <;> first | (simp (disch := omega) only [push_cast, simprocAttr, natNe, zI, zG, zJ, zM, Bool.true_and, zO, beq_self_eq_true, zP, Bool.not_true, zW, zC, hc, hlI, hl6I, hq1] <;> first | rfl | omega) | omega)
                  | (exfalso; omega)
        · rw [if_neg hin] at c73
          have c74 := Path_arg r f t hc hin
          have hin' : f < 0 ∨ (0 ≤ f ∧ ((nodesR r []).length : Int) ≤ f) ∨ (0 ≤ f ∧ f < ((nodesR r []).length : Int) ∧ t < 0) ∨ (0 ≤ f ∧ f < ((nodesR r []).length : Int) ∧ 0 ≤ t ∧ ((nodesR r []).length : Int) ≤ t) := by
            unfold inN at hin
            omega
          clear hin
          obtain ⟨NN, hNN⟩ : ∃ z, nodesR r [] = z := ⟨_, rfl⟩
          rw [hNN] at c46 hin'
          clear c75
          rcases hin' with a0 | ⟨a0, a1⟩ | ⟨a0, a1, b0⟩ | ⟨a0, a1, b0, b1⟩
          · skip
            refine OKat.of_body (rs := [8]) Try.func16 rfl (by decide +kernel) rfl (by simp [Try.ntmps16]) ?_
            simp only [Try.ntmps16]
            repeat' first
              | apply jA | apply jB | apply jC | apply jD | apply jE | apply jF | apply jG | apply jH | apply jI
              | ((first | (apply jK cx_ok; decide) | (apply jN; rfl; decide) | apply jR); (simp (disch := omega) only [push_cast, simprocAttr, natNe, zI, zG, zJ, zM, Bool.true_and, zO, beq_self_eq_true, zP, Bool.not_true, zW, zC, hc, hlI, a0] <;> rfl); all_goals try ((with_reducible intro hI); try first | (cases hI; done) | (simp only [INTS, zL] at hI; try first | (exfalso; omega) | (have hT : True := hI; clear hT hI))))
              | ((apply jP; rfl; decide); (simp (disch := omega) only [push_cast, simprocAttr, natNe, zI, zG, zJ, zM, Bool.true_and, zO, beq_self_eq_true, zP, Bool.not_true, zW, zC, hc, hlI, a0] <;> rfl))
              | ((apply jV cx_ok; decide); (iterate 2 (simp (disch := omega) only [push_cast, simprocAttr, natNe, zI, zG, zJ, zM, Bool.true_and, zO, beq_self_eq_true, zP, Bool.not_true, zW, zC, hc, hlI, a0] <;> rfl)); (with_reducible first | exact csm | exact c20 | exact RCheck_ok r | exact c46 | exact c73 | exact c74); try first | rfl | (simp (disch := omega) only [push_cast, simprocAttr, natNe, zI, zG, zJ, zM, Bool.true_and, zO, beq_self_eq_true, zP, Bool.not_true, zW, zC, hc, hlI, a0] <;> rfl))
              | ((first | apply jf | apply jg); (iterate 2 (try (simp (disch := omega) only [push_cast, simprocAttr, natNe, zI, zG, zJ, zM, Bool.true_and, zO, beq_self_eq_true, zP, Bool.not_true, zW, zC, hc, hlI, a0] <;> rfl))))

            all_goals (show _ = _; rfl)
          · skip
            refine OKat.of_body (rs := [8]) Try.func16 rfl (by decide +kernel) rfl (by simp [Try.ntmps16]) ?_
            simp only [Try.ntmps16]
            repeat' first
              | apply jA | apply jB | apply jC | apply jD | apply jE | apply jF | apply jG | apply jH | apply jI
              | ((first | (apply jK cx_ok; decide) | (apply jN; rfl; decide) | apply jR); (simp (disch := omega) only [push_cast, simprocAttr, natNe, zI, zG, zJ, zM, Bool.true_and, zO, beq_self_eq_true, zP, Bool.not_true, zW, zC, hc, hlI, a0, a1] <;> rfl); all_goals try ((with_reducible intro hI); try first | (cases hI; done) | (simp only [INTS, zL] at hI; try first | (exfalso; omega) | (have hT : True := hI; clear hT hI))))
              | ((apply jP; rfl; decide); (simp (disch := omega) only [push_cast, simprocAttr, natNe, zI, zG, zJ, zM, Bool.true_and, zO, beq_self_eq_true, zP, Bool.not_true, zW, zC, hc, hlI, a0, a1] <;> rfl))
              | ((apply jV cx_ok; decide); (iterate 2 (simp (disch := omega) only [push_cast, simprocAttr, natNe, zI, zG, zJ, zM, Bool.true_and, zO, beq_self_eq_true, zP, Bool.not_true, zW, zC, hc, hlI, a0, a1] <;> rfl)); (with_reducible first | exact csm | exact c20 | exact RCheck_ok r | exact c46 | exact c73 | exact c74); try first | rfl | (simp (disch := omega) only [push_cast, simprocAttr, natNe, zI, zG, zJ, zM, Bool.true_and, zO, beq_self_eq_true, zP, Bool.not_true, zW, zC, hc, hlI, a0, a1] <;> rfl))
              | ((first | apply jf | apply jg); (iterate 2 (try (simp (disch := omega) only [push_cast, simprocAttr, natNe, zI, zG, zJ, zM, Bool.true_and, zO, beq_self_eq_true, zP, Bool.not_true, zW, zC, hc, hlI, a0, a1] <;> rfl))))

            all_goals (show _ = _; rfl)
          · skip
            refine OKat.of_body (rs := [8]) Try.func16 rfl (by decide +kernel) rfl (by simp [Try.ntmps16]) ?_
            simp only [Try.ntmps16]
            repeat' first
              | apply jA | apply jB | apply jC | apply jD | apply jE | apply jF | apply jG | apply jH | apply jI
              | ((first | (apply jK cx_ok; decide) | (apply jN; rfl; decide) | apply jR); (simp (disch := omega) only [push_cast, simprocAttr, natNe, zI, zG, zJ, zM, Bool.true_and, zO, beq_self_eq_true, zP, Bool.not_true, zW, zC, hc, hlI, a0, a1, b0] <;> rfl); all_goals try ((with_reducible intro hI); try first | (cases hI; done) | (simp only [INTS, zL] at hI; try first | (exfalso; omega) | (have hT : True := hI; clear hT hI))))
              | ((apply jP; rfl; decide); (simp (disch := omega) only [push_cast, simprocAttr, natNe, zI, zG, zJ, zM, Bool.true_and, zO, beq_self_eq_true, zP, Bool.not_true, zW, zC, hc, hlI, a0, a1, b0] <;> rfl))
              | ((apply jV cx_ok; decide); (iterate 2 (simp (disch := omega) only [push_cast, simprocAttr, natNe, zI, zG, zJ, zM, Bool.true_and, zO, beq_self_eq_true, zP, Bool.not_true, zW, zC, hc, hlI, a0, a1, b0] <;> rfl)); (with_reducible first | exact csm | exact c20 | exact RCheck_ok r | exact c46 | exact c73 | exact c74); try first | rfl | (simp (disch := omega) only [push_cast, simprocAttr, natNe, zI, zG, zJ, zM, Bool.true_and, zO, beq_self_eq_true, zP, Bool.not_true, zW, zC, hc, hlI, a0, a1, b0] <;> rfl))
              | ((first | apply jf | apply jg); (iterate 2 (try (simp (disch := omega) only [push_cast, simprocAttr, natNe, zI, zG, zJ, zM, Bool.true_and, zO, beq_self_eq_true, zP, Bool.not_true, zW, zC, hc, hlI, a0, a1, b0] <;> rfl))))

            all_goals (show _ = _; rfl)
          · skip
            refine OKat.of_body (rs := [8]) Try.func16 rfl (by decide +kernel) rfl (by simp [Try.ntmps16]) ?_
            simp only [Try.ntmps16]
            repeat' first
              | apply jA | apply jB | apply jC | apply jD | apply jE | apply jF | apply jG | apply jH | apply jI
              | ((first | (apply jK cx_ok; decide) | (apply jN; rfl; decide) | apply jR); (simp (disch := omega) only [push_cast, simprocAttr, natNe, zI, zG, zJ, zM, Bool.true_and, zO, beq_self_eq_true, zP, Bool.not_true, zW, zC, hc, hlI, a0, a1, b0, b1] <;> rfl); all_goals try ((with_reducible intro hI); try first | (cases hI; done) | (simp only [INTS, zL] at hI; try first | (exfalso; omega) | (have hT : True := hI; clear hT hI))))
              | ((apply jP; rfl; decide); (simp (disch := omega) only [push_cast, simprocAttr, natNe, zI, zG, zJ, zM, Bool.true_and, zO, beq_self_eq_true, zP, Bool.not_true, zW, zC, hc, hlI, a0, a1, b0, b1] <;> rfl))
              | ((apply jV cx_ok; decide); (iterate 2 (simp (disch := omega) only [push_cast, simprocAttr, natNe, zI, zG, zJ, zM, Bool.true_and, zO, beq_self_eq_true, zP, Bool.not_true, zW, zC, hc, hlI, a0, a1, b0, b1] <;> rfl)); (with_reducible first | exact csm | exact c20 | exact RCheck_ok r | exact c46 | exact c73 | exact c74); try first | rfl | (simp (disch := omega) only [push_cast, simprocAttr, natNe, zI, zG, zJ, zM, Bool.true_and, zO, beq_self_eq_true, zP, Bool.not_true, zW, zC, hc, hlI, a0, a1, b0, b1] <;> rfl))
              | ((first | apply jf | apply jg); (iterate 2 (try (simp (disch := omega) only [push_cast, simprocAttr, natNe, zI, zG, zJ, zM, Bool.true_and, zO, beq_self_eq_true, zP, Bool.not_true, zW, zC, hc, hlI, a0, a1, b0, b1] <;> rfl))))

            all_goals (show _ = _; rfl)
      · rw [if_neg hc] at c73
        have hcF : (checkE r = 0) = False := eq_false hc
        have c74 := Path_bad r f t hc
        have c21 := RCheck_ok r
        obtain ⟨E, hE⟩ : ∃ z, checkE r = z := ⟨_, rfl⟩
        rw [hE] at c21 c73 c74 hcF
        refine OKat.of_body (rs := [8]) Try.func16 rfl (by decide +kernel) rfl (by simp [Try.ntmps16]) ?_
        simp only [Try.ntmps16]
        repeat' first
          | apply jA | apply jB | apply jC | apply jD | apply jE | apply jF | apply jG | apply jH | apply jI
          | ((first | (apply jK cx_ok; decide) | (apply jN; rfl; decide) | apply jR); (simp (disch := omega) only [push_cast, simprocAttr, natNe, zI, zG, zJ, zM, Bool.true_and, zO, beq_self_eq_true, zP, Bool.not_true, zW, zC, hcF, hlI] <;> rfl); all_goals try ((with_reducible intro hI); try first | (cases hI; done) | (simp only [INTS, zL] at hI; try first | (exfalso; omega) | (have hT : True := hI; clear hT hI))))
          | ((apply jP; rfl; decide); (simp (disch := omega) only [push_cast, simprocAttr, natNe, zI, zG, zJ, zM, Bool.true_and, zO, beq_self_eq_true, zP, Bool.not_true, zW, zC, hcF, hlI] <;> rfl))
          | ((apply jV cx_ok; decide); (iterate 2 (simp (disch := omega) only [push_cast, simprocAttr, natNe, zI, zG, zJ, zM, Bool.true_and, zO, beq_self_eq_true, zP, Bool.not_true, zW, zC, hcF, hlI] <;> rfl)); (with_reducible first | exact csm | exact c20 | exact c21 | exact c73 | exact c74); try first | rfl | (simp (disch := omega) only [push_cast, simprocAttr, natNe, zI, zG, zJ, zM, Bool.true_and, zO, beq_self_eq_true, zP, Bool.not_true, zW, zC, hcF, hlI] <;> rfl))
          | ((first | apply jf | apply jg); (iterate 2 (try (simp (disch := omega) only [push_cast, simprocAttr, natNe, zI, zG, zJ, zM, Bool.true_and, zO, beq_self_eq_true, zP, Bool.not_true, zW, zC, hcF, hlI] <;> rfl))))

        all_goals (show _ = _; rfl)
end Go.Proofs.Ks
