/-
  Contracts of functions, proved by going through their code. No conditions.
-/
import Derived.Test.YtdlflcambboojaaKaa
import Derived.Test.YtdlflcambboojaaKaw
import Derived.Test.YtdlflcambboojaaKbd
import Derived.Test.YtdlflcambboojaaKbe
import Derived.Test.YtdlflcambboojaaKbf
import Derived.Test.YtdlflcambboojaaKlT
import Derived.Test.YtdlflcambboojaaKuF
set_option linter.unusedVariables false
set_option linter.unusedSimpArgs false
set_option maxHeartbeats 8000000
set_option maxRecDepth 10000
namespace Go.Proofs.Ks
open Go Go.Pg Go.Proofs
theorem tri_rows {r : Rec} (hc : checkE r = 0) (hq : consP r [] = true) {k : Nat} (hk : k < (nodesR r []).length) : ∃ row, (tightP r)[k]? = some row ∧ row.length = (nodesR r []).length ∧ ∀ c, c < (nodesR r []).length → row[c]? = some (dst r k c) := by
  refine ⟨_, ?_, len_lengths hc hq k, fun c hcn => ?_⟩
  · have := tightP_get (r := r) hk
    rw [← this, List.getD_eq_getElem?_getD, List.getElem?_eq_getElem (by rw [tightP_len]; exact hk)]; rfl
  · unfold dst
    rw [List.getD_eq_getElem?_getD, List.getElem?_eq_getElem (by rw [len_lengths hc hq]; exact hcn)]; rfl
theorem law17_bad (r : Rec) (E E2 : Int) (LK : List Lk) (hE : E ≠ 0) (csm : OKv cx 19 [.agg (eRec r)] (ab true)) (c59 : OKv cx 59 [.agg (eRec r)] (.tup [.lst [], ai E])) (c34 : OKv cx 34 [.agg (eRec r)] (.tup [.lst [], ai E])) (c56 : OKv cx 56 [.agg (eRec r)] (.tup [.lst [], ai E])) (c61 : OKv cx 61 [.agg (eRec r)] (.tup [.lst [], ai E])) (c40 : OKv cx 40 [.agg (eRec r)] (.tup [lLink LK, ai E2])) : OKv cx 17 [.agg (eRec r)] (ab true) := by
  have c20 := sanity_ok
  have hEF : (E = 0) = False := eq_false hE
  refine OKat.of_body (rs := [2]) Try.func17 rfl (by decide +kernel) rfl (by simp [Try.ntmps17]) ?_
  simp only [Try.ntmps17]
  repeat' first
    | apply jA | apply jB | apply jC | apply jD | apply jE | apply jF | apply jG | apply jH | apply jI | apply jJ
    | refine W.draw cx_mixed (by decide +kernel) ?_
    | ((first | (apply jK cx_ok; decide) | (apply jL cx_ok; decide; decide) | (apply jN; rfl; decide) | (apply jO; rfl; decide; decide) | apply jR); (simp (disch := omega) only [push_cast, simprocAttr, hEF, natNe, zI, zG, zJ, zM, Bool.true_and, zO, beq_self_eq_true, zP, Bool.not_true, zW, zC] <;> rfl); all_goals try ((with_reducible intro hI); try first | (cases hI; done) | (simp only [INTS, zL] at hI; try first | (exfalso; omega) | (have hT : True := hI; clear hT hI))))
    | ((first | (apply jV cx_ok; decide) | (apply jW cx_ok; decide; decide)); (iterate 2 (simp (disch := omega) only [push_cast, simprocAttr, hEF, natNe, zI, zG, zJ, zM, Bool.true_and, zO, beq_self_eq_true, zP, Bool.not_true, zW, zC] <;> rfl)); (with_reducible first | exact csm | exact c20 | exact c59 | exact c34 | exact c56 | exact c61 | exact c40); try first | rfl | (simp (disch := omega) only [push_cast, simprocAttr, hEF, natNe, zI, zG, zJ, zM, Bool.true_and, zO, beq_self_eq_true, zP, Bool.not_true, zW, zC] <;> rfl))
    | ((first | apply jf | apply jg); (iterate 2 (try (simp (disch := omega) only [push_cast, simprocAttr, hEF, natNe, zI, zG, zJ, zM, Bool.true_and, zO, beq_self_eq_true, zP, Bool.not_true, zW, zC] <;> rfl))))

  all_goals (show _ = _; rfl)
theorem law17_ok (r : Rec) : OKv cx 17 [.agg (eRec r)] (ab true) := by
  have csm := small_ok r
  have c20 := sanity_ok
  cases hsm : smallB r with
  | false =>
    rw [hsm] at csm
    refine OKat.of_body (rs := [2]) Try.func17 rfl (by decide +kernel) rfl (by simp [Try.ntmps17]) ?_
    simp only [Try.ntmps17]
    repeat' first
      | apply jA | apply jB | apply jC | apply jD | apply jE | apply jF | apply jG | apply jH | apply jI | apply jJ
      | refine W.draw cx_mixed (by decide +kernel) ?_
      | ((first | (apply jK cx_ok; decide) | (apply jL cx_ok; decide; decide) | (apply jN; rfl; decide) | (apply jO; rfl; decide; decide) | apply jR); (simp (disch := omega) only [push_cast, simprocAttr] <;> rfl); all_goals try ((with_reducible intro hI); try first | (cases hI; done) | (simp only [INTS, zL] at hI; try first | (exfalso; omega) | (have hT : True := hI; clear hT hI))))
      | ((first | (apply jV cx_ok; decide) | (apply jW cx_ok; decide; decide)); (iterate 2 (simp (disch := omega) only [push_cast, simprocAttr] <;> rfl)); (with_reducible first | exact csm | exact c20); try first | rfl | (simp (disch := omega) only [push_cast, simprocAttr] <;> rfl))
      | ((first | apply jf | apply jg); (iterate 2 (try (simp (disch := omega) only [push_cast, simprocAttr] <;> rfl))))

    all_goals (show _ = _; rfl)
  | true =>
    rw [hsm] at csm
    rcases solved0 r with ⟨hc, hs⟩ | ⟨hc, hq, hs⟩ | ⟨hc, hq, hs⟩
    · exact law17_bad r _ _ [] hc csm (Tight_err r _ hc hs) (Spans_err r _ hc hs) (First_err r _ hc hs) (Last_err r _ hc hs) (Links_bad r hc)
    · exact law17_bad r 9 0 _ (by decide) csm (Tight_err r 9 (by decide) hs) (Spans_err r 9 (by decide) hs) (First_err r 9 (by decide) hs) (Last_err r 9 (by decide) hs) (Links_good r hc)
    · have hln := nodesR_len r []
      have hns := (checkE_V hc).nstrikes
      obtain ⟨f1, f2, f3, f4, f5⟩ := links_facts (more := []) (checkE_V hc) (by decide) nomore
      have c59 := Tight_good r hc hq
      have c34 := Spans_good r hc hq
      have c56 := First_good r hc hq
      have c61 := Last_good r hc hq
      have c40 := Links_good r hc
      have q1 := tightP_len r
      have q2 := firstP_len r
      have q3 := lastP_len hc hq
      have hsl : (spansP r).length = r.strikes.length := by unfold spansP; simp
      have hsp : ∀ k, k < r.strikes.length → (spansP r)[k]? = some ⟨(firstP r).getD (3 + k) 0, (lastP r).getD (3 + k) 0⟩ := fun k hk => spans_is hk
      have hrow : ∀ k, k < (nodesR r []).length → _ := fun k hk => tri_rows hc hq hk
      have hbd : ∀ a b, a < (nodesR r []).length → b < (nodesR r []).length → -1074141823 ≤ dst r a b ∧ dst r a b ≤ 1074141823 := fun a b ha hb => (dst_spec hc hq ha hb).2.2
      have htr : ∀ a b c, a < (nodesR r []).length → b < (nodesR r []).length → c < (nodesR r []).length → dst r a c ≤ dst r a b + dst r b c := fun a b c ha hb hcn => dst_tri hc hq ha hb hcn
      have hlk : ∀ l ∈ linksR r [], dst r l.a l.b ≤ l.m := fun l hl => dst_link hc hq hl
      have c47a := CheckTimes_ok r (firstP r) (by omega)
      have c47b := CheckTimes_ok r (lastP r) (by omega)
      rw [times_first hc hq] at c47a
      rw [times_last hc hq] at c47b
      have e5 : ((firstP r).take (3 + r.strikes.length)).drop 3 = ((firstP r).drop 3).take r.strikes.length := by rw [List.drop_take, Nat.add_sub_cancel_left]
      have e7 : ((lastP r).take (3 + r.strikes.length)).drop 3 = ((lastP r).drop 3).take r.strikes.length := by rw [List.drop_take, Nat.add_sub_cancel_left]
      have c53a := Fits_ok r (((firstP r).take (3 + r.strikes.length)).drop 3) (by rw [e5, List.length_take]; omega)
      have c53b := Fits_ok r (((lastP r).take (3 + r.strikes.length)).drop 3) (by rw [e7, List.length_take]; omega)
      rw [e5, fits_first hc hq, ← e5] at c53a
      rw [e7, fits_last hc hq, ← e7] at c53b
      dsimp only at c53a c53b
      obtain ⟨DS, hDS⟩ : ∃ f, dst r = f := ⟨_, rfl⟩
      obtain ⟨TT, hTT⟩ : ∃ z, tightP r = z := ⟨_, rfl⟩
      obtain ⟨FF, hFF⟩ : ∃ z, firstP r = z := ⟨_, rfl⟩
      obtain ⟨LL, hLL⟩ : ∃ z, lastP r = z := ⟨_, rfl⟩
      obtain ⟨SS, hSS⟩ : ∃ z, spansP r = z := ⟨_, rfl⟩
      obtain ⟨LK, hLK⟩ : ∃ z, linksR r [] = z := ⟨_, rfl⟩
      rw [hDS] at hbd htr hlk
      rw [hTT, hDS] at hrow
      rw [hFF, hLL, hSS] at hsp
      rw [hTT] at c59 q1
      rw [hFF] at c56 q2 c47a c53a
      rw [hLL] at c61 q3 c47b c53b
      rw [hSS] at c34 hsl
      rw [hLK] at c40 hlk f2 f3 f4
      clear hTT hFF hLL hSS hDS e5 e7
      obtain ⟨NN, hNN⟩ : ∃ z, (nodesR r []).length = z := ⟨_, rfl⟩
      rw [hNN] at hrow hbd htr q1 q2 q3 hln f1 f3
      have hto : ((3 : Int) + (r.strikes.length : Int)).toNat = 3 + r.strikes.length := by omega
      have htp : (0 : Int) ≤ (3 : Int) + (r.strikes.length : Int) := by omega
      have htl : (3 ≤ 3 + r.strikes.length) = True := eq_true (by omega)
      have hfl : (3 + r.strikes.length ≤ FF.length) = True := eq_true (by omega)
      have hll : (3 + r.strikes.length ≤ LL.length) = True := eq_true (by omega)
      have heF : (∀ e ∈ FF.map eInt, e.length = 1) = True := eq_true fun e he => by obtain ⟨y, _, rfl⟩ := List.mem_map.1 he; rfl
      have heL : (∀ e ∈ LL.map eInt, e.length = 1) = True := eq_true fun e he => by obtain ⟨y, _, rfl⟩ := List.mem_map.1 he; rfl
      have hsF : (FF.map eInt).take (3 + r.strikes.length) = (FF.take (3 + r.strikes.length)).map eInt := (List.map_take ..).symm
      have hsL : (LL.map eInt).take (3 + r.strikes.length) = (LL.take (3 + r.strikes.length)).map eInt := (List.map_take ..).symm
      have hdF : ((FF.take (3 + r.strikes.length)).map eInt).drop 3 = ((FF.take (3 + r.strikes.length)).drop 3).map eInt := (List.map_drop ..).symm
      have hdL : ((LL.take (3 + r.strikes.length)).map eInt).drop 3 = ((LL.take (3 + r.strikes.length)).drop 3).map eInt := (List.map_drop ..).symm
      have n1 : ((SS.length : Int) = (r.strikes.length : Int)) = True := eq_true (by omega)
      have n2 : ((FF.length : Int) < 3 + (r.strikes.length : Int)) = False := eq_false (by omega)
      have n3 : ((LL.length : Int) = (FF.length : Int)) = True := eq_true (by omega)
      have n4 : ((TT.length : Int) = (FF.length : Int)) = True := eq_true (by omega)
      refine OKat.of_body (rs := [2]) Try.func17 rfl (by decide +kernel) rfl (by simp [Try.ntmps17]) ?_
      simp only [Try.ntmps17]
      repeat' first
        | apply jA | apply jB | apply jC | apply jD | apply jE | apply jF | apply jG | apply jH | apply jI | apply jJ
        | refine W.draw cx_mixed (by decide +kernel) ?_
        | ((first | (apply jK cx_ok; decide) | (apply jL cx_ok; decide; decide) | (apply jN; rfl; decide) | (apply jO; rfl; decide; decide) | apply jR); (simp (disch := omega) only [push_cast, simprocAttr, hto, htp, htl, hfl, hll, heF, heL, hsF, hsL, hdF, hdL, n1, n2, n3, n4, zT, zS, zU, natNe, zI, zG, zJ, zM, Bool.true_and, zO, beq_self_eq_true, zP, Bool.not_true, zW, zC] <;> rfl); all_goals try ((with_reducible intro hI); try first | (cases hI; done) | (simp only [INTS, zL] at hI; try first | (exfalso; omega) | (have hT : True := hI; clear hT hI))))
        | ((first | (apply jV cx_ok; decide) | (apply jW cx_ok; decide; decide)); (iterate 2 (simp (disch := omega) only [push_cast, simprocAttr, hto, htp, htl, hfl, hll, heF, heL, hsF, hsL, hdF, hdL, n1, n2, n3, n4, zT, zS, zU, natNe, zI, zG, zJ, zM, Bool.true_and, zO, beq_self_eq_true, zP, Bool.not_true, zW, zC] <;> rfl)); (with_reducible first | exact csm | exact c59 | exact c56 | exact c61 | exact c34 | exact c40 | exact c47a | exact c47b | exact c53a | exact c53b); try first | rfl | (simp (disch := omega) only [push_cast, simprocAttr, hto, htp, htl, hfl, hll, heF, heL, hsF, hsL, hdF, hdL, n1, n2, n3, n4, zT, zS, zU, natNe, zI, zG, zJ, zM, Bool.true_and, zO, beq_self_eq_true, zP, Bool.not_true, zW, zC] <;> rfl))
        | ((first | apply jf | apply jg); (iterate 2 (try (simp (disch := omega) only [push_cast, simprocAttr, hto, htp, htl, hfl, hll, heF, heL, hsF, hsL, hdF, hdL, n1, n2, n3, n4, zT, zS, zU, natNe, zI, zG, zJ, zM, Bool.true_and, zO, beq_self_eq_true, zP, Bool.not_true, zW, zC] <;> rfl))))

      refine AW.loop (fun n s => ∃ (k : Nat), n = r.strikes.length - k ∧ (k ≤ r.strikes.length) ∧ s.tm 3 = encM TT ∧ s.tm 5 = lInt FF ∧ s.tm 7 = lInt LL ∧ s.tm 9 = lSpan SS ∧ s.tm 11 = lLink LK ∧ s.tm 13 = ai r.strikes.length ∧ s.tm 18 = ai k) (r.strikes.length) ⟨0, rfl, (Nat.zero_le _), ?_, ?_, ?_, ?_, ?_, ?_, ?_⟩ ?_
      iterate 7 (first | (simp (disch := omega) only [push_cast, simprocAttr, natNe, zI, zG, zJ, zM, Bool.true_and, zO, beq_self_eq_true, zP, Bool.not_true, zW, zC, hto, htp, htl, hfl, hll, heF, heL, hsF, hsL, hdF, hdL] <;> first | rfl | omega) | omega)
      rintro n1 s1 ⟨k1, hn1, hp01, hS1⟩
      by_cases hk1 : k1 < r.strikes.length
      · have i1 : (k1 : Int) < (r.strikes.length : Int) := by omega
        have i2 : (k1 : Int) < (SS.length : Int) := by omega
        have i3 : (3 : Int) + (k1 : Int) < (FF.length : Int) := by omega
        have i4 : (3 : Int) + (k1 : Int) < (LL.length : Int) := by omega
        have i5 : ((3 : Int) + (k1 : Int)).toNat = 3 + k1 := by omega
        have i6 : (0 : Int) ≤ (3 : Int) + (k1 : Int) := by omega
        have hs1 := hsp k1 hk1
        obtain ⟨x, hx⟩ : ∃ z, FF.getD (3 + k1) 0 = z := ⟨_, rfl⟩
        obtain ⟨y, hy⟩ : ∃ z, LL.getD (3 + k1) 0 = z := ⟨_, rfl⟩
        rw [hx, hy] at hs1
        have u1 : (SS.map eSpan)[k1]? = some (eSpan ⟨x, y⟩) := by rw [List.getElem?_map, hs1]; rfl
        have u2 : (SS.map eSpan).getD k1 [] = eSpan ⟨x, y⟩ := by rw [List.getD_eq_getElem?_getD, u1]; rfl
        have v1 : (FF.map eInt)[3 + k1]? = some (eInt x) := by rw [List.getElem?_map, (by rw [← hx, List.getD_eq_getElem?_getD, List.getElem?_eq_getElem (show 3 + k1 < FF.length by omega)]; rfl : FF[3 + k1]? = some x)]; rfl
        have v2 : (FF.map eInt).getD (3 + k1) [] = eInt x := by rw [List.getD_eq_getElem?_getD, v1]; rfl
        have w1 : (LL.map eInt)[3 + k1]? = some (eInt y) := by rw [List.getElem?_map, (by rw [← hy, List.getD_eq_getElem?_getD, List.getElem?_eq_getElem (show 3 + k1 < LL.length by omega)]; rfl : LL[3 + k1]? = some y)]; rfl
        have w2 : (LL.map eInt).getD (3 + k1) [] = eInt y := by rw [List.getD_eq_getElem?_getD, w1]; rfl
        repeat' first
          | apply jA | apply jB | apply jC | apply jD | apply jE | apply jF | apply jG | apply jH | apply jI | apply jJ
          | refine W.draw cx_mixed (by decide +kernel) ?_
          | ((first | (apply jK cx_ok; decide) | (apply jL cx_ok; decide; decide) | (apply jN; rfl; decide) | (apply jO; rfl; decide; decide) | apply jR); (simp (disch := omega) only [push_cast, simprocAttr, hS1, i1, i2, i3, i4, i5, i6, u1, u2, v1, v2, w1, w2, natNe, zI, zG, zJ, zM, Bool.true_and, zO, beq_self_eq_true, zP, Bool.not_true, zW, zC] <;> rfl); all_goals try ((with_reducible intro hI); try first | (cases hI; done) | (simp only [INTS, zL] at hI; try first | (exfalso; omega) | (have hT : True := hI; clear hT hI))))
          | ((first | apply jf | apply jg); (iterate 2 (try (simp (disch := omega) only [push_cast, simprocAttr, hS1, i1, i2, i3, i4, i5, i6, u1, u2, v1, v2, w1, w2, natNe, zI, zG, zJ, zM, Bool.true_and, zO, beq_self_eq_true, zP, Bool.not_true, zW, zC] <;> rfl))))

        all_goals (refine ⟨r.strikes.length - (k1 + 1), ?_, k1 + 1, rfl, (by omega), ?_, ?_, ?_, ?_, ?_, ?_, ?_⟩; (omega); all_goals first | (simp (disch := omega) only [push_cast, simprocAttr, hS1, natNe, zI, zG, zJ, zM, Bool.true_and, zO, beq_self_eq_true, zP, Bool.not_true, zW, zC, i1] <;> first | rfl | omega) | omega)
      have i1 : ¬ (k1 : Int) < (r.strikes.length : Int) := by omega
      repeat' first
        | apply jA | apply jB | apply jC | apply jD | apply jE | apply jF | apply jG | apply jH | apply jI | apply jJ
        | refine W.draw cx_mixed (by decide +kernel) ?_
        | ((first | (apply jK cx_ok; decide) | (apply jL cx_ok; decide; decide) | (apply jN; rfl; decide) | (apply jO; rfl; decide; decide) | apply jR); (simp (disch := omega) only [push_cast, simprocAttr, hS1, i1, natNe, zI, zG, zJ, zM, Bool.true_and, zO, beq_self_eq_true, zP, Bool.not_true, zW, zC] <;> rfl); all_goals try ((with_reducible intro hI); try first | (cases hI; done) | (simp only [INTS, zL] at hI; try first | (exfalso; omega) | (have hT : True := hI; clear hT hI))))
        | ((first | apply jf | apply jg); (iterate 2 (try (simp (disch := omega) only [push_cast, simprocAttr, hS1, i1, natNe, zI, zG, zJ, zM, Bool.true_and, zO, beq_self_eq_true, zP, Bool.not_true, zW, zC] <;> rfl))))

      refine AW.loop (fun n s => ∃ (k : Nat), n = TT.length - k ∧ (k ≤ TT.length) ∧ s.tm 3 = encM TT ∧ s.tm 11 = lLink LK ∧ s.tm 19 = ai k) (TT.length) ⟨0, rfl, (Nat.zero_le _), ?_, ?_, ?_⟩ ?_
      iterate 3 (first | (simp (disch := omega) only [push_cast, simprocAttr, hS1, i1, natNe, zI, zG, zJ, zM, Bool.true_and, zO, beq_self_eq_true, zP, Bool.not_true, zW, zC] <;> first | rfl | omega) | omega)
      rintro n2 s2 ⟨k2, hn2, hp02, hS2⟩
      by_cases hk2 : k2 < TT.length
      · have i2 : (k2 : Int) < (TT.length : Int) := by omega
        obtain ⟨row2, t1, t2, t3⟩ := hrow k2 (by omega)
        have u1 : (TT.map fun row => [lInt row])[k2]? = some [lInt row2] := by rw [List.getElem?_map, t1]; rfl
        have u2 : (TT.map fun row => [lInt row]).getD k2 [] = [lInt row2] := by rw [List.getD_eq_getElem?_getD, u1]; rfl
        repeat' first
          | apply jA | apply jB | apply jC | apply jD | apply jE | apply jF | apply jG | apply jH | apply jI | apply jJ
          | refine W.draw cx_mixed (by decide +kernel) ?_
          | ((first | (apply jK cx_ok; decide) | (apply jL cx_ok; decide; decide) | (apply jN; rfl; decide) | (apply jO; rfl; decide; decide) | apply jR); (simp (disch := omega) only [push_cast, simprocAttr, hS2, i2, natNe, zI, zG, zJ, zM, Bool.true_and, zO, beq_self_eq_true, zP, Bool.not_true, zW, zC] <;> rfl); all_goals try ((with_reducible intro hI); try first | (cases hI; done) | (simp only [INTS, zL] at hI; try first | (exfalso; omega) | (have hT : True := hI; clear hT hI))))
          | ((first | apply jf | apply jg); (iterate 2 (try (simp (disch := omega) only [push_cast, simprocAttr, hS2, i2, natNe, zI, zG, zJ, zM, Bool.true_and, zO, beq_self_eq_true, zP, Bool.not_true, zW, zC] <;> rfl))))

        refine AW.loop (fun n s => ∃ (k : Nat), n = TT.length - k ∧ (k ≤ TT.length) ∧ s.tm 3 = encM TT ∧ s.tm 11 = lLink LK ∧ s.tm 19 = ai k2 ∧ s.tm 20 = ai k) (TT.length) ⟨0, rfl, (Nat.zero_le _), ?_, ?_, ?_, ?_⟩ ?_
        iterate 4 (first | (simp (disch := omega) only [push_cast, simprocAttr, hS2, i2, natNe, zI, zG, zJ, zM, Bool.true_and, zO, beq_self_eq_true, zP, Bool.not_true, zW, zC] <;> first | rfl | omega) | omega)
        rintro n3 s3 ⟨k3, hn3, hp03, hS3⟩
        by_cases hk3 : k3 < TT.length
        · have i3 : (k3 : Int) < (TT.length : Int) := by omega
          obtain ⟨row3, t4, t5, t6⟩ := hrow k3 (by omega)
          have u3 : (TT.map fun row => [lInt row])[k3]? = some [lInt row3] := by rw [List.getElem?_map, t4]; rfl
          have u4 : (TT.map fun row => [lInt row]).getD k3 [] = [lInt row3] := by rw [List.getD_eq_getElem?_getD, u3]; rfl
          obtain ⟨vab, hvab⟩ : ∃ z, DS k2 k3 = z := ⟨_, rfl⟩
          have b1 := hbd k2 k3 (by omega) (by omega)
          rw [hvab] at b1
          have g1 : (row2.map eInt)[k3]? = some (eInt vab) := by rw [List.getElem?_map, t3 k3 (by omega), hvab]; rfl
          have g2 : (row2.map eInt).getD k3 [] = eInt vab := by rw [List.getD_eq_getElem?_getD, g1]; rfl
          have j1 : (k3 : Int) < (row2.length : Int) := by omega
          repeat' first
            | apply jA | apply jB | apply jC | apply jD | apply jE | apply jF | apply jG | apply jH | apply jI | apply jJ
            | refine W.draw cx_mixed (by decide +kernel) ?_
            | ((first | (apply jK cx_ok; decide) | (apply jL cx_ok; decide; decide) | (apply jN; rfl; decide) | (apply jO; rfl; decide; decide) | apply jR); (simp (disch := omega) only [push_cast, simprocAttr, hS3, i3, natNe, zI, zG, zJ, zM, Bool.true_and, zO, beq_self_eq_true, zP, Bool.not_true, zW, zC] <;> rfl); all_goals try ((with_reducible intro hI); try first | (cases hI; done) | (simp only [INTS, zL] at hI; try first | (exfalso; omega) | (have hT : True := hI; clear hT hI))))
            | ((first | apply jf | apply jg); (iterate 2 (try (simp (disch := omega) only [push_cast, simprocAttr, hS3, i3, natNe, zI, zG, zJ, zM, Bool.true_and, zO, beq_self_eq_true, zP, Bool.not_true, zW, zC] <;> rfl))))

          refine AW.loop (fun n s => ∃ (k : Nat), n = TT.length - k ∧ (k ≤ TT.length) ∧ s.tm 3 = encM TT ∧ s.tm 11 = lLink LK ∧ s.tm 19 = ai k2 ∧ s.tm 20 = ai k3 ∧ s.tm 21 = ai k) (TT.length) ⟨0, rfl, (Nat.zero_le _), ?_, ?_, ?_, ?_, ?_⟩ ?_
          iterate 5 (first | (simp (disch := omega) only [push_cast, simprocAttr, hS3, i3, natNe, zI, zG, zJ, zM, Bool.true_and, zO, beq_self_eq_true, zP, Bool.not_true, zW, zC] <;> first | rfl | omega) | omega)
          rintro n4 s4 ⟨k4, hn4, hp04, hS4⟩
          by_cases hk4 : k4 < TT.length
          · have i4 : (k4 : Int) < (TT.length : Int) := by omega
            have hT := htr k2 k3 k4 (by omega) (by omega) (by omega)
            have b2 := hbd k2 k4 (by omega) (by omega)
            have b3 := hbd k3 k4 (by omega) (by omega)
            have g3' := t3 k4 (by omega)
            have g5' := t6 k4 (by omega)
            obtain ⟨vac, hvac⟩ : ∃ z, DS k2 k4 = z := ⟨_, rfl⟩
            obtain ⟨vbc, hvbc⟩ : ∃ z, DS k3 k4 = z := ⟨_, rfl⟩
            rw [hvac] at hT b2 g3'
            rw [hvbc] at hT b3 g5'
            rw [hvab] at hT
            have g3 : (row2.map eInt)[k4]? = some (eInt vac) := by rw [List.getElem?_map, g3']; rfl
            have g4 : (row2.map eInt).getD k4 [] = eInt vac := by rw [List.getD_eq_getElem?_getD, g3]; rfl
            have g5 : (row3.map eInt)[k4]? = some (eInt vbc) := by rw [List.getElem?_map, g5']; rfl
            have g6 : (row3.map eInt).getD k4 [] = eInt vbc := by rw [List.getD_eq_getElem?_getD, g5]; rfl
            have j2 : (k4 : Int) < (row2.length : Int) := by omega
            have j3 : (k4 : Int) < (row3.length : Int) := by omega
            have hTF : (vab + vbc < vac) = False := eq_false (by omega)
            repeat' first
              | apply jA | apply jB | apply jC | apply jD | apply jE | apply jF | apply jG | apply jH | apply jI | apply jJ
              | refine W.draw cx_mixed (by decide +kernel) ?_
              | ((first | (apply jK cx_ok; decide) | (apply jL cx_ok; decide; decide) | (apply jN; rfl; decide) | (apply jO; rfl; decide; decide) | apply jR); (simp (disch := omega) only [push_cast, simprocAttr, hS4, i2, i3, i4, u1, u2, u3, u4, g1, g2, g3, g4, g5, g6, j1, j2, j3, hTF, natNe, zI, zG, zJ, zM, Bool.true_and, zO, beq_self_eq_true, zP, Bool.not_true, zW, zC] <;> rfl); all_goals try ((with_reducible intro hI); try first | (cases hI; done) | (simp only [INTS, zL] at hI; try first | (exfalso; omega) | (have hT : True := hI; clear hT hI))))
              | ((first | apply jf | apply jg); (iterate 2 (try (simp (disch := omega) only [push_cast, simprocAttr, hS4, i2, i3, i4, u1, u2, u3, u4, g1, g2, g3, g4, g5, g6, j1, j2, j3, hTF, natNe, zI, zG, zJ, zM, Bool.true_and, zO, beq_self_eq_true, zP, Bool.not_true, zW, zC] <;> rfl))))

            all_goals (refine ⟨TT.length - (k4 + 1), ?_, k4 + 1, rfl, (by omega), ?_, ?_, ?_, ?_, ?_⟩; (omega); all_goals first | (simp (disch := omega) only [push_cast, simprocAttr, hS4, natNe, zI, zG, zJ, zM, Bool.true_and, zO, beq_self_eq_true, zP, Bool.not_true, zW, zC, i4] <;> first | rfl | omega) | omega)
          have i4 : ¬ (k4 : Int) < (TT.length : Int) := by omega
          repeat' first
            | apply jA | apply jB | apply jC | apply jD | apply jE | apply jF | apply jG | apply jH | apply jI | apply jJ
            | refine W.draw cx_mixed (by decide +kernel) ?_
            | ((first | (apply jK cx_ok; decide) | (apply jL cx_ok; decide; decide) | (apply jN; rfl; decide) | (apply jO; rfl; decide; decide) | apply jR); (simp (disch := omega) only [push_cast, simprocAttr, hS4, i4, natNe, zI, zG, zJ, zM, Bool.true_and, zO, beq_self_eq_true, zP, Bool.not_true, zW, zC] <;> rfl); all_goals try ((with_reducible intro hI); try first | (cases hI; done) | (simp only [INTS, zL] at hI; try first | (exfalso; omega) | (have hT : True := hI; clear hT hI))))
            | ((first | apply jf | apply jg); (iterate 2 (try (simp (disch := omega) only [push_cast, simprocAttr, hS4, i4, natNe, zI, zG, zJ, zM, Bool.true_and, zO, beq_self_eq_true, zP, Bool.not_true, zW, zC] <;> rfl))))

          all_goals (refine ⟨TT.length - (k3 + 1), ?_, k3 + 1, rfl, (by omega), ?_, ?_, ?_, ?_⟩; (omega); all_goals first | (simp (disch := omega) only [push_cast, simprocAttr, hS3, natNe, zI, zG, zJ, zM, Bool.true_and, zO, beq_self_eq_true, zP, Bool.not_true, zW, zC, i4, hS4] <;> first | rfl | omega) | omega)
        have i3 : ¬ (k3 : Int) < (TT.length : Int) := by omega
        repeat' first
          | apply jA | apply jB | apply jC | apply jD | apply jE | apply jF | apply jG | apply jH | apply jI | apply jJ
          | refine W.draw cx_mixed (by decide +kernel) ?_
          | ((first | (apply jK cx_ok; decide) | (apply jL cx_ok; decide; decide) | (apply jN; rfl; decide) | (apply jO; rfl; decide; decide) | apply jR); (simp (disch := omega) only [push_cast, simprocAttr, hS3, i3, natNe, zI, zG, zJ, zM, Bool.true_and, zO, beq_self_eq_true, zP, Bool.not_true, zW, zC] <;> rfl); all_goals try ((with_reducible intro hI); try first | (cases hI; done) | (simp only [INTS, zL] at hI; try first | (exfalso; omega) | (have hT : True := hI; clear hT hI))))
          | ((first | apply jf | apply jg); (iterate 2 (try (simp (disch := omega) only [push_cast, simprocAttr, hS3, i3, natNe, zI, zG, zJ, zM, Bool.true_and, zO, beq_self_eq_true, zP, Bool.not_true, zW, zC] <;> rfl))))

        all_goals (refine ⟨TT.length - (k2 + 1), ?_, k2 + 1, rfl, (by omega), ?_, ?_, ?_⟩; (omega); all_goals first | (simp (disch := omega) only [push_cast, simprocAttr, hS2, natNe, zI, zG, zJ, zM, Bool.true_and, zO, beq_self_eq_true, zP, Bool.not_true, zW, zC, i3, hS3] <;> first | rfl | omega) | omega)
      have i2 : ¬ (k2 : Int) < (TT.length : Int) := by omega
      repeat' first
        | apply jA | apply jB | apply jC | apply jD | apply jE | apply jF | apply jG | apply jH | apply jI | apply jJ
        | refine W.draw cx_mixed (by decide +kernel) ?_
        | ((first | (apply jK cx_ok; decide) | (apply jL cx_ok; decide; decide) | (apply jN; rfl; decide) | (apply jO; rfl; decide; decide) | apply jR); (simp (disch := omega) only [push_cast, simprocAttr, hS2, i2, natNe, zI, zG, zJ, zM, Bool.true_and, zO, beq_self_eq_true, zP, Bool.not_true, zW, zC] <;> rfl); all_goals try ((with_reducible intro hI); try first | (cases hI; done) | (simp only [INTS, zL] at hI; try first | (exfalso; omega) | (have hT : True := hI; clear hT hI))))
        | ((first | apply jf | apply jg); (iterate 2 (try (simp (disch := omega) only [push_cast, simprocAttr, hS2, i2, natNe, zI, zG, zJ, zM, Bool.true_and, zO, beq_self_eq_true, zP, Bool.not_true, zW, zC] <;> rfl))))

      refine AW.loop (fun n s => ∃ (k : Nat) (rest : List Lk), n = rest.length ∧ (LK.drop k = rest) ∧ s.tm 3 = encM TT ∧ s.tm 11 = lLink LK ∧ s.tm 22 = ai k) (LK.length) ⟨0, LK, rfl, rfl, ?_, ?_, ?_⟩ ?_
      iterate 3 (first | (simp (disch := omega) only [push_cast, simprocAttr, hS2, i2, natNe, zI, zG, zJ, zM, Bool.true_and, zO, beq_self_eq_true, zP, Bool.not_true, zW, zC] <;> first | rfl | omega) | omega)
      rintro n5 s5 ⟨k5, rest5, hn5, hp05, hS5⟩
      rcases rest5 with _ | ⟨l, rest5⟩
      rotate_left
      · obtain ⟨hk, hg, hd', hl', hm, hx⟩ := drop_cons hp05 eLink []
        obtain ⟨p1, p2⟩ := f3 l hm
        have p3 := hlk l hm
        have p4 := f4 l hm
        obtain ⟨row, t1, t2, t3⟩ := hrow l.a p1
        have g1' := t3 l.b p2
        obtain ⟨v, hvv⟩ : ∃ z, DS l.a l.b = z := ⟨_, rfl⟩
        rw [hvv] at p3 g1'
        have u1 : (TT.map fun row => [lInt row])[l.a]? = some [lInt row] := by rw [List.getElem?_map, t1]; rfl
        have u2 : (TT.map fun row => [lInt row]).getD l.a [] = [lInt row] := by rw [List.getD_eq_getElem?_getD, u1]; rfl
        have g1 : (row.map eInt)[l.b]? = some (eInt v) := by rw [List.getElem?_map, g1']; rfl
        have g2 : (row.map eInt).getD l.b [] = eInt v := by rw [List.getD_eq_getElem?_getD, g1]; rfl
        have j1 : (l.a : Int) < (TT.length : Int) := by omega
        have j2 : (l.b : Int) < (row.length : Int) := by omega
        have hTF : (l.m < v) = False := eq_false (by omega)
        repeat' first
          | apply jA | apply jB | apply jC | apply jD | apply jE | apply jF | apply jG | apply jH | apply jI | apply jJ
          | refine W.draw cx_mixed (by decide +kernel) ?_
          | ((first | (apply jK cx_ok; decide) | (apply jL cx_ok; decide; decide) | (apply jN; rfl; decide) | (apply jO; rfl; decide; decide) | apply jR); (simp (disch := omega) only [push_cast, simprocAttr, hS5, hk, hg, hx, u1, u2, g1, g2, j1, j2, hTF, natNe, zI, zG, zJ, zM, Bool.true_and, zO, beq_self_eq_true, zP, Bool.not_true, zW, zC] <;> rfl); all_goals try ((with_reducible intro hI); try first | (cases hI; done) | (simp only [INTS, zL] at hI; try first | (exfalso; omega) | (have hT : True := hI; clear hT hI))))
          | ((first | apply jf | apply jg); (iterate 2 (try (simp (disch := omega) only [push_cast, simprocAttr, hS5, hk, hg, hx, u1, u2, g1, g2, j1, j2, hTF, natNe, zI, zG, zJ, zM, Bool.true_and, zO, beq_self_eq_true, zP, Bool.not_true, zW, zC] <;> rfl))))

        all_goals (refine ⟨rest5.length, ?_, k5 + 1, rest5, rfl, hd', ?_, ?_, ?_⟩; ((simp only [zD] at *; omega)); all_goals first | (simp (disch := omega) only [push_cast, simprocAttr, hS5, natNe, zI, zG, zJ, zM, Bool.true_and, zO, beq_self_eq_true, zP, Bool.not_true, zW, zC, hk, hg, hx] <;> first | rfl | omega) | omega)
      have hk := drop_nil hp05
      repeat' first
        | apply jA | apply jB | apply jC | apply jD | apply jE | apply jF | apply jG | apply jH | apply jI | apply jJ
        | refine W.draw cx_mixed (by decide +kernel) ?_
        | ((first | (apply jK cx_ok; decide) | (apply jL cx_ok; decide; decide) | (apply jN; rfl; decide) | (apply jO; rfl; decide; decide) | apply jR); (simp (disch := omega) only [push_cast, simprocAttr, hS5, hk, natNe, zI, zG, zJ, zM, Bool.true_and, zO, beq_self_eq_true, zP, Bool.not_true, zW, zC] <;> rfl); all_goals try ((with_reducible intro hI); try first | (cases hI; done) | (simp only [INTS, zL] at hI; try first | (exfalso; omega) | (have hT : True := hI; clear hT hI))))
        | ((first | (apply jV cx_ok; decide) | (apply jW cx_ok; decide; decide)); (iterate 2 (simp (disch := omega) only [push_cast, simprocAttr, hS5, hk, natNe, zI, zG, zJ, zM, Bool.true_and, zO, beq_self_eq_true, zP, Bool.not_true, zW, zC] <;> rfl)); (with_reducible first | exact c20); try first | rfl | (simp (disch := omega) only [push_cast, simprocAttr, hS5, hk, natNe, zI, zG, zJ, zM, Bool.true_and, zO, beq_self_eq_true, zP, Bool.not_true, zW, zC] <;> rfl))
        | ((first | apply jf | apply jg); (iterate 2 (try (simp (disch := omega) only [push_cast, simprocAttr, hS5, hk, natNe, zI, zG, zJ, zM, Bool.true_and, zO, beq_self_eq_true, zP, Bool.not_true, zW, zC] <;> rfl))))

      all_goals (show _ = _; rfl)
end Go.Proofs.Ks
