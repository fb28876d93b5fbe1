/-
  Contracts of functions, proved by going through their code. No conditions.
-/
import Derived.Test.YtdlflcambboojaaMaa
import Derived.Test.YtdlflcambboojaaMbf
import Derived.Test.YtdlflcambboojaaN12KnB
import Derived.Test.YtdlflcambboojaaN12KnC
import Derived.Test.YtdlflcambboojaaN12KmA
import Derived.Test.YtdlflcambboojaaN12KuF
import Derived.Test.YtdlflcambboojaaN12LwA
set_option linter.unusedVariables false
set_option linter.unusedSimpArgs false
set_option maxHeartbeats 8000000
set_option maxRecDepth 10000
namespace Go.Proofs.Ks
open Go Go.Pg Go.Proofs
theorem same_times (r : Rec) (hc : checkE r = 0) (ts : List Int) (hl : ts.length ≤ 1099511627776) : ∃ (C : Int) (T : Bool), OKv cx 47 [.agg (eRec r), lInt ts] (ai C) ∧ OKv cx 57 [ai C] (ab T) ∧ OKv cx 58 [.agg (eRec r), lInt ts] (ab T) := by
  refine ⟨_, _, CheckTimes_ok r ts hl, ?_, RTimes_ok r (checkE_V hc) ts hl⟩
  have := fine_ok (checkTimesE r ts)
  unfold checkTimesE at this ⊢
  rw [if_pos hc] at this ⊢
  obtain ⟨T, hT⟩ : ∃ z, timesB (nodesR r []).length (linksR r []) ts = z := ⟨_, rfl⟩
  rw [hT] at this ⊢
  cases T <;> exact this
noncomputable def tail12 : Code := dropS 6 (Try.f12.body.getD .skip)
theorem tail12_ok (r : Rec) (ts : List Int) (a : Nat) (b : Int) (hc : checkE r = 0) (hl : ts.length ≤ 80) (ha : a < 256) (hb : -32768 ≤ b ∧ b ≤ 32767) {s : St} (t1 : s.tm 1 = lInt ts) (t2 : s.tm 2 = .v (.int .u8 (a : Int))) (t3 : s.tm 3 = .v (.int .i16 b)) (t4 : s.tm 4 = .ptr 0 0 0 1) (hrow : Pg.rowAt s.H 0 = some { k := 14, es := [eRec r], ty := 30 }) (hnx : 1 ≤ s.nx) :
    AW cx 122 tail12 (endQ [8] fun x => x = ab true) s := by
  have c20 := sanity_ok
  obtain ⟨C1, T1, c47a, c57a, c58a⟩ := same_times r hc ts (by omega)
  have hT := And.intro t1 (And.intro t2 (And.intro t3 t4))
  have ht0 : (0 = s.nx) = False := eq_false (by omega)
  have hts : (s.nx = 0) = False := eq_false (by omega)
  clear t1 t2 t3 t4
  delta tail12
  simp only [Try.f12, Option.getD_some, dropS]
  rcases solved0 r with ⟨hc', hs⟩ | ⟨_, hq, hs⟩ | ⟨_, hq, hs⟩
  · exact absurd hc hc'
  · have c56 := First_err r 9 (by decide) hs
    obtain ⟨C2, T2, c47b, c57b, c58b⟩ := same_times r hc [] (by decide)
    have c47b : OKv cx 47 [.agg (eRec r), .lst []] (ai C2) := c47b
    have c58b : OKv cx 58 [.agg (eRec r), .lst []] (ab T2) := c58b
    repeat' first
      | apply jA | apply jB | apply jC | apply jD | apply jE | apply jF | apply jG | apply jH | apply jI | apply jJ
      | refine W.draw cx_mixed (by decide +kernel) ?_
      | ((first | (apply jK cx_ok; decide) | (apply jL cx_ok; decide; decide) | apply jM cx_ok | (apply jN; rfl; decide) | (apply jO; rfl; decide; decide) | apply jR); (simp (disch := (first | omega | (simp only [vC]; omega))) only [push_cast, simprocAttr, takeM, dropM, zK, zA, zB, zN, zQ, zR, zO, zP, zT, zS, zU, leT, zH, hT, hrow, ht0, hts, natNe, zI, zG, zJ, zM, Bool.true_and, beq_self_eq_true, Bool.not_true, zW, zC] <;> rfl); all_goals try ((with_reducible intro hI); try first | (cases hI; done) | (simp only [INTS, zL] at hI; try first | (exfalso; omega) | (have hT : True := hI; clear hT hI))))
      | ((first | (apply jP; rfl; decide) | (apply jQ; rfl; decide; decide)); (simp (disch := (first | omega | (simp only [vC]; omega))) only [push_cast, simprocAttr, takeM, dropM, zK, zA, zB, zN, zQ, zR, zO, zP, zT, zS, zU, leT, zH, hT, hrow, ht0, hts, natNe, zI, zG, zJ, zM, Bool.true_and, beq_self_eq_true, Bool.not_true, zW, zC] <;> rfl))
      | (apply jT cx_ok; decide; rfl; rfl; rfl; decide; (iterate 3 (simp (disch := (first | omega | (simp only [vC]; omega))) only [push_cast, simprocAttr, takeM, dropM, zK, zA, zB, zN, zQ, zR, zO, zP, zT, zS, zU, leT, zH, hT, hrow, ht0, hts, natNe, zI, zG, zJ, zM, Bool.true_and, beq_self_eq_true, Bool.not_true, zW, zC] <;> rfl)); (first | (focus (simp; done)) | (intro c hc; obtain ⟨x, _, rfl⟩ := List.mem_map.1 hc; rfl)); ((first | rfl | simp (disch := omega) only [push_cast])); ((try dsimp only); (try simp only [vC]); omega); ((try dsimp only); (try simp only [vC]); omega))
      | ((first | (apply jV cx_ok; decide) | (apply jW cx_ok; decide; decide)); (iterate 2 (simp (disch := (first | omega | (simp only [vC]; omega))) only [push_cast, simprocAttr, takeM, dropM, zK, zA, zB, zN, zQ, zR, zO, zP, zT, zS, zU, leT, zH, hT, hrow, ht0, hts, natNe, zI, zG, zJ, zM, Bool.true_and, beq_self_eq_true, Bool.not_true, zW, zC] <;> rfl)); (with_reducible first | exact c20 | exact c56 | exact c47a | exact c57a | exact c58a | exact c47b | exact c57b | exact c58b); try first | rfl | (simp (disch := (first | omega | (simp only [vC]; omega))) only [push_cast, simprocAttr, takeM, dropM, zK, zA, zB, zN, zQ, zR, zO, zP, zT, zS, zU, leT, zH, hT, hrow, ht0, hts, natNe, zI, zG, zJ, zM, Bool.true_and, beq_self_eq_true, Bool.not_true, zW, zC] <;> rfl))
      | ((first | apply jn | apply jo | apply jl | apply jm | apply jf | apply jg | apply jh | apply ji | apply jj | apply jk | apply jd | apply je); (iterate 2 (try (simp (disch := (first | omega | (simp only [vC]; omega))) only [push_cast, simprocAttr, takeM, dropM, zK, zA, zB, zN, zQ, zR, zO, zP, zT, zS, zU, leT, zH, hT, hrow, ht0, hts, natNe, zI, zG, zJ, zM, Bool.true_and, beq_self_eq_true, Bool.not_true, zW, zC] <;> rfl))))

    all_goals (show _ = _; rfl)
  · have c56 := First_good r hc hq
    have hln := nodesR_len r []
    have hfew := nodes_few hc
    have hfl := firstP_len r
    have hgt : ∀ m, m < (nodesR r []).length → -2000000000 ≤ (firstP r).getD m 0 ∧ (firstP r).getD m 0 ≤ 2000000000 := fun m hm => by
      rw [firstP_get hm]
      have := dst_ends hc hq hm
      omega
    obtain ⟨FF, hFF⟩ : ∃ z, firstP r = z := ⟨_, rfl⟩
    rw [hFF] at c56 hfl hgt
    have hpos : 0 < FF.length := by omega
    have hml : a % FF.length < FF.length := Nat.mod_lt _ hpos
    obtain ⟨m, hm⟩ : ∃ z, a % FF.length = z := ⟨_, rfl⟩
    have hmE : (a : Int) % (FF.length : Int) = (m : Int) := by rw [← hm, Int.natCast_emod]
    rw [hm] at hml
    obtain ⟨z1, z2, _⟩ := getI (ts := FF) (i := m) hml
    have hg2 := hgt m (by omega)
    obtain ⟨x, hx⟩ : ∃ z, FF.getD m 0 = z := ⟨_, rfl⟩
    rw [hx] at z1 z2 hg2
    have hmI : (m : Int) < (FF.length : Int) := by omega
    have hpI : (0 : Int) < (FF.length : Int) := by omega
    obtain ⟨C2, T2, c47b, c57b, c58b⟩ := same_times r hc (FF.set m (x + b)) (by rw [List.length_set]; omega)
    have hsE : (FF.map eInt).set m [ai (x + b)] = (FF.set m (x + b)).map eInt := by rw [List.map_set]
    obtain ⟨b1, b2⟩ := hb
    have hzF : ((FF.length : Int) = 0) = False := eq_false (by omega)
    obtain ⟨GG, hGG⟩ : ∃ z, FF.set m (x + b) = z := ⟨_, rfl⟩
    have hGl : GG.length = FF.length := by rw [← hGG, List.length_set]
    rw [hGG] at c47b c58b hsE
    have hGl2 : (FF.length ≤ GG.length) = True := eq_true (by omega)
    have hGt : (GG.map eInt).take FF.length = GG.map eInt := List.take_of_length_le (by rw [List.length_map]; omega)
    repeat' first
      | apply jA | apply jB | apply jC | apply jD | apply jE | apply jF | apply jG | apply jH | apply jI | apply jJ
      | refine W.draw cx_mixed (by decide +kernel) ?_
      | ((first | (apply jK cx_ok; decide) | (apply jL cx_ok; decide; decide) | apply jM cx_ok | (apply jN; rfl; decide) | (apply jO; rfl; decide; decide) | apply jR); (simp (disch := (first | omega | (simp only [vC, hGl]; omega))) only [push_cast, simprocAttr, takeM, dropM, zK, zA, zB, zN, zQ, zR, zO, zP, zT, zS, zU, leT, zH, hT, hrow, ht0, hts, natNe, zI, zG, zJ, zM, Bool.true_and, beq_self_eq_true, Bool.not_true, zW, zC, hmE, hml, hmI, hpI, hzF, z1, z2, hsE, hGl, hGl2, hGt, isEmpty_map, yA, Nat.zero_add] <;> rfl); all_goals try ((with_reducible intro hI); try first | (cases hI; done) | (simp only [INTS, zL] at hI; try first | (exfalso; omega) | (have hT : True := hI; clear hT hI))))
      | ((first | (apply jP; rfl; decide) | (apply jQ; rfl; decide; decide)); (simp (disch := (first | omega | (simp only [vC, hGl]; omega))) only [push_cast, simprocAttr, takeM, dropM, zK, zA, zB, zN, zQ, zR, zO, zP, zT, zS, zU, leT, zH, hT, hrow, ht0, hts, natNe, zI, zG, zJ, zM, Bool.true_and, beq_self_eq_true, Bool.not_true, zW, zC, hmE, hml, hmI, hpI, hzF, z1, z2, hsE, hGl, hGl2, hGt, isEmpty_map, yA, Nat.zero_add] <;> rfl))
      | (apply jT cx_ok; decide; rfl; rfl; rfl; decide; (iterate 3 (simp (disch := (first | omega | (simp only [vC, hGl]; omega))) only [push_cast, simprocAttr, takeM, dropM, zK, zA, zB, zN, zQ, zR, zO, zP, zT, zS, zU, leT, zH, hT, hrow, ht0, hts, natNe, zI, zG, zJ, zM, Bool.true_and, beq_self_eq_true, Bool.not_true, zW, zC, hmE, hml, hmI, hpI, hzF, z1, z2, hsE, hGl, hGl2, hGt, isEmpty_map, yA, Nat.zero_add] <;> rfl)); (first | (focus (simp; done)) | (intro c hc; obtain ⟨x, _, rfl⟩ := List.mem_map.1 hc; rfl)); ((first | rfl | simp (disch := omega) only [push_cast])); ((try dsimp only); (try simp only [vC, hGl]); omega); ((try dsimp only); (try simp only [vC, hGl]); omega))
      | ((first | (apply jV cx_ok; decide) | (apply jW cx_ok; decide; decide)); (iterate 2 (simp (disch := (first | omega | (simp only [vC, hGl]; omega))) only [push_cast, simprocAttr, takeM, dropM, zK, zA, zB, zN, zQ, zR, zO, zP, zT, zS, zU, leT, zH, hT, hrow, ht0, hts, natNe, zI, zG, zJ, zM, Bool.true_and, beq_self_eq_true, Bool.not_true, zW, zC, hmE, hml, hmI, hpI, hzF, z1, z2, hsE, hGl, hGl2, hGt, isEmpty_map, yA, Nat.zero_add] <;> rfl)); (with_reducible first | exact c20 | exact c56 | exact c47a | exact c57a | exact c58a | exact c47b | exact c57b | exact c58b); try first | rfl | (simp (disch := (first | omega | (simp only [vC, hGl]; omega))) only [push_cast, simprocAttr, takeM, dropM, zK, zA, zB, zN, zQ, zR, zO, zP, zT, zS, zU, leT, zH, hT, hrow, ht0, hts, natNe, zI, zG, zJ, zM, Bool.true_and, beq_self_eq_true, Bool.not_true, zW, zC, hmE, hml, hmI, hpI, hzF, z1, z2, hsE, hGl, hGl2, hGt, isEmpty_map, yA, Nat.zero_add] <;> rfl))
      | ((first | apply jn | apply jo | apply jl | apply jm | apply jf | apply jg | apply jh | apply ji | apply jj | apply jk | apply jd | apply je); (iterate 2 (try (simp (disch := (first | omega | (simp only [vC, hGl]; omega))) only [push_cast, simprocAttr, takeM, dropM, zK, zA, zB, zN, zQ, zR, zO, zP, zT, zS, zU, leT, zH, hT, hrow, ht0, hts, natNe, zI, zG, zJ, zM, Bool.true_and, beq_self_eq_true, Bool.not_true, zW, zC, hmE, hml, hmI, hpI, hzF, z1, z2, hsE, hGl, hGl2, hGt, isEmpty_map, yA, Nat.zero_add] <;> rfl))))

    all_goals (show _ = _; rfl)
theorem law12_ok (r : Rec) (ts : List Int) (a : Nat) (ha : a < 256) (b : Int) (hb : -32768 ≤ b ∧ b ≤ 32767) : OKv cx 12 [.agg (eRec r), lInt ts, .v (.int .u8 (a : Int)), .v (.int .i16 b)] (ab true) := by
  have csm := small_ok r
  have c20 := sanity_ok
  have c21 := RCheck_ok r
  cases hsm : smallB r with
  | false =>
    rw [hsm] at csm
    refine OKat.of_body (rs := [8]) Try.func12 rfl (by decide +kernel) rfl (by simp [Try.ntmps12]) ?_
    simp only [Try.ntmps12]
    repeat' first
      | apply jA | apply jB | apply jC | apply jD | apply jE | apply jF | apply jG | apply jH | apply jI | apply jJ
      | refine W.draw cx_mixed (by decide +kernel) ?_
      | ((first | (apply jK cx_ok; decide) | (apply jL cx_ok; decide; decide) | apply jM cx_ok | (apply jN; rfl; decide) | (apply jO; rfl; decide; decide) | apply jR); (simp (disch := omega) only [push_cast, simprocAttr] <;> rfl); all_goals try ((with_reducible intro hI); try first | (cases hI; done) | (simp only [INTS, zL] at hI; try first | (exfalso; omega) | (have hT : True := hI; clear hT hI))))
      | ((first | (apply jP; rfl; decide) | (apply jQ; rfl; decide; decide)); (simp (disch := omega) only [push_cast, simprocAttr] <;> rfl))
      | ((first | (apply jV cx_ok; decide) | (apply jW cx_ok; decide; decide)); (iterate 2 (simp (disch := omega) only [push_cast, simprocAttr] <;> rfl)); (with_reducible first | exact csm | exact c20); try first | rfl | (simp (disch := omega) only [push_cast, simprocAttr] <;> rfl))
      | ((first | apply jf | apply jg); (iterate 2 (try (simp (disch := omega) only [push_cast, simprocAttr] <;> rfl))))

    all_goals (show _ = _; rfl)
  | true =>
    rw [hsm] at csm
    by_cases hl : 80 < ts.length
    · have hlI : (80 : Int) < (ts.length : Int) := by omega
      refine OKat.of_body (rs := [8]) Try.func12 rfl (by decide +kernel) rfl (by simp [Try.ntmps12]) ?_
      simp only [Try.ntmps12]
      repeat' first
        | apply jA | apply jB | apply jC | apply jD | apply jE | apply jF | apply jG | apply jH | apply jI | apply jJ
        | refine W.draw cx_mixed (by decide +kernel) ?_
        | ((first | (apply jK cx_ok; decide) | (apply jL cx_ok; decide; decide) | apply jM cx_ok | (apply jN; rfl; decide) | (apply jO; rfl; decide; decide) | apply jR); (simp (disch := omega) only [push_cast, simprocAttr, hlI] <;> rfl); all_goals try ((with_reducible intro hI); try first | (cases hI; done) | (simp only [INTS, zL] at hI; try first | (exfalso; omega) | (have hT : True := hI; clear hT hI))))
        | ((first | (apply jP; rfl; decide) | (apply jQ; rfl; decide; decide)); (simp (disch := omega) only [push_cast, simprocAttr, hlI] <;> rfl))
        | ((first | (apply jV cx_ok; decide) | (apply jW cx_ok; decide; decide)); (iterate 2 (simp (disch := omega) only [push_cast, simprocAttr, hlI] <;> rfl)); (with_reducible first | exact csm | exact c20); try first | rfl | (simp (disch := omega) only [push_cast, simprocAttr, hlI] <;> rfl))
        | ((first | apply jf | apply jg); (iterate 2 (try (simp (disch := omega) only [push_cast, simprocAttr, hlI] <;> rfl))))

      all_goals (show _ = _; rfl)
    · have hlI : ¬ (80 : Int) < (ts.length : Int) := by omega
      have c53 := Fits_ok r ts (by omega)
      by_cases hc : checkE r = 0
      · have hv := checkE_V hc
        have hns := hv.nstrikes
        rw [hc] at c21
        have c54 := Listed_ok r ts (by omega) (by omega)
        by_cases hB : ts.length = r.strikes.length ∧ ts.all okT = true
        · obtain ⟨hB1, hB2⟩ := hB
          have c55 := RFits_ok r hv ts hB1 (fun t ht => by
            have := List.all_eq_true.1 hB2 t ht
            unfold okT at this
            simp only [Bool.and_eq_true, decide_eq_true_eq] at this
            exact this)
          rw [hB2, decide_eq_true hB1] at c54
          have e1 : fitsP r ts = (decide ((lengthsF (nodesR r []).length (linksR r [] ++ fitL 0 ts) (-1)).2.2 < 0), 0) := by unfold fitsP; rw [if_pos hc, if_pos hB1, if_pos hB2]
          rw [e1] at c53
          obtain ⟨D1, hD1⟩ : ∃ z, decide ((lengthsF (nodesR r []).length (linksR r [] ++ fitL 0 ts) (-1)).2.2 < 0) = z := ⟨_, rfl⟩
          rw [hD1] at c53 c55
          dsimp only at c53
          have hne : (D1 != D1) = false := by cases D1 <;> rfl
          clear hD1 e1
          refine OKat.of_body (rs := [8]) Try.func12 rfl (by decide +kernel) rfl (by simp [Try.ntmps12]) ?_
          simp only [Try.ntmps12]
          repeat' first
            | refine AW.seqS (y := tail12) ?_ | apply jA | apply jB | apply jC | apply jD | apply jE | apply jF | apply jG | apply jH | apply jI | apply jJ
            | refine W.draw cx_mixed (by decide +kernel) ?_
            | ((first | (apply jK cx_ok; decide) | (apply jL cx_ok; decide; decide) | apply jM cx_ok | (apply jN; rfl; decide) | (apply jO; rfl; decide; decide) | apply jR); (simp (disch := omega) only [push_cast, simprocAttr, hlI, hne, natNe, zI, zG, zJ, zM, Bool.true_and, zO, beq_self_eq_true, zP, Bool.not_true, zW, zC] <;> rfl); all_goals try ((with_reducible intro hI); try first | (cases hI; done) | (simp only [INTS, zL] at hI; try first | (exfalso; omega) | (have hT : True := hI; clear hT hI))))
            | ((first | (apply jP; rfl; decide) | (apply jQ; rfl; decide; decide)); (simp (disch := omega) only [push_cast, simprocAttr, hlI, hne, natNe, zI, zG, zJ, zM, Bool.true_and, zO, beq_self_eq_true, zP, Bool.not_true, zW, zC] <;> rfl))
            | ((first | (apply jV cx_ok; decide) | (apply jW cx_ok; decide; decide)); (iterate 2 (simp (disch := omega) only [push_cast, simprocAttr, hlI, hne, natNe, zI, zG, zJ, zM, Bool.true_and, zO, beq_self_eq_true, zP, Bool.not_true, zW, zC] <;> rfl)); (with_reducible first | exact csm | exact c21 | exact c53 | exact c54 | exact c55); try first | rfl | (simp (disch := omega) only [push_cast, simprocAttr, hlI, hne, natNe, zI, zG, zJ, zM, Bool.true_and, zO, beq_self_eq_true, zP, Bool.not_true, zW, zC] <;> rfl))
            | ((first | apply jf | apply jg); (iterate 2 (try (simp (disch := omega) only [push_cast, simprocAttr, hlI, hne, natNe, zI, zG, zJ, zM, Bool.true_and, zO, beq_self_eq_true, zP, Bool.not_true, zW, zC] <;> rfl))))

          all_goals first
            | (refine Pg.Stop.mk (tail12_ok r ts a b hc (by omega) ha hb ?_ ?_ ?_ ?_ ?_ ?_) <;> first | (simp (disch := omega) only [push_cast, simprocAttr, natNe, zI, zG, zJ, zM, Bool.true_and, zO, beq_self_eq_true, zP, Bool.not_true, zW, zC, hlI, hc] <;> first | rfl | omega) | omega)
            | (exfalso; omega)
        · have hF : (ts.all okT && decide (ts.length = r.strikes.length)) = false := by
            cases h1 : ts.all okT with
            | false => rfl
            | true => rw [decide_eq_false (fun h => hB ⟨h, h1⟩)]; rfl
          rw [hF] at c54
          have e1 : fitsP r ts = (false, 1) := by
            unfold fitsP
            rw [if_pos hc]
            split
            · rename_i h1
              rw [if_neg (fun h2 => hB ⟨h1, h2⟩)]
            · rfl
          rw [e1] at c53
          refine OKat.of_body (rs := [8]) Try.func12 rfl (by decide +kernel) rfl (by simp [Try.ntmps12]) ?_
          simp only [Try.ntmps12]
          repeat' first
            | refine AW.seqS (y := tail12) ?_ | apply jA | apply jB | apply jC | apply jD | apply jE | apply jF | apply jG | apply jH | apply jI | apply jJ
            | refine W.draw cx_mixed (by decide +kernel) ?_
            | ((first | (apply jK cx_ok; decide) | (apply jL cx_ok; decide; decide) | apply jM cx_ok | (apply jN; rfl; decide) | (apply jO; rfl; decide; decide) | apply jR); (simp (disch := omega) only [push_cast, simprocAttr, hlI, natNe, zI, zG, zJ, zM, Bool.true_and, zO, beq_self_eq_true, zP, Bool.not_true, zW, zC] <;> rfl); all_goals try ((with_reducible intro hI); try first | (cases hI; done) | (simp only [INTS, zL] at hI; try first | (exfalso; omega) | (have hT : True := hI; clear hT hI))))
            | ((first | (apply jP; rfl; decide) | (apply jQ; rfl; decide; decide)); (simp (disch := omega) only [push_cast, simprocAttr, hlI, natNe, zI, zG, zJ, zM, Bool.true_and, zO, beq_self_eq_true, zP, Bool.not_true, zW, zC] <;> rfl))
            | ((first | (apply jV cx_ok; decide) | (apply jW cx_ok; decide; decide)); (iterate 2 (simp (disch := omega) only [push_cast, simprocAttr, hlI, natNe, zI, zG, zJ, zM, Bool.true_and, zO, beq_self_eq_true, zP, Bool.not_true, zW, zC] <;> rfl)); (with_reducible first | exact csm | exact c21 | exact c53 | exact c54); try first | rfl | (simp (disch := omega) only [push_cast, simprocAttr, hlI, natNe, zI, zG, zJ, zM, Bool.true_and, zO, beq_self_eq_true, zP, Bool.not_true, zW, zC] <;> rfl))
            | ((first | apply jf | apply jg); (iterate 2 (try (simp (disch := omega) only [push_cast, simprocAttr, hlI, natNe, zI, zG, zJ, zM, Bool.true_and, zO, beq_self_eq_true, zP, Bool.not_true, zW, zC] <;> rfl))))

          all_goals first
            | (refine Pg.Stop.mk (tail12_ok r ts a b hc (by omega) ha hb ?_ ?_ ?_ ?_ ?_ ?_) <;> first | (simp (disch := omega) only [push_cast, simprocAttr, natNe, zI, zG, zJ, zM, Bool.true_and, zO, beq_self_eq_true, zP, Bool.not_true, zW, zC, hlI, hc] <;> first | rfl | omega) | omega)
            | (exfalso; omega)
      · have hcF : (checkE r = 0) = False := eq_false hc
        have c47 := CheckTimes_ok r ts (by omega)
        rw [show checkTimesE r ts = checkE r by unfold checkTimesE; rw [if_neg hc]] at c47
        rw [show fitsP r ts = (false, checkE r) by unfold fitsP; rw [if_neg hc]] at c53
        obtain ⟨E, hE⟩ : ∃ z, checkE r = z := ⟨_, rfl⟩
        rw [hE] at c21 c47 c53 hcF
        refine OKat.of_body (rs := [8]) Try.func12 rfl (by decide +kernel) rfl (by simp [Try.ntmps12]) ?_
        simp only [Try.ntmps12]
        repeat' first
          | apply jA | apply jB | apply jC | apply jD | apply jE | apply jF | apply jG | apply jH | apply jI | apply jJ
          | refine W.draw cx_mixed (by decide +kernel) ?_
          | ((first | (apply jK cx_ok; decide) | (apply jL cx_ok; decide; decide) | apply jM cx_ok | (apply jN; rfl; decide) | (apply jO; rfl; decide; decide) | apply jR); (simp (disch := omega) only [push_cast, simprocAttr, hlI, hcF, natNe, zI, zG, zJ, zM, Bool.true_and, zO, beq_self_eq_true, zP, Bool.not_true, zW, zC, Bool.not_false] <;> rfl); all_goals try ((with_reducible intro hI); try first | (cases hI; done) | (simp only [INTS, zL] at hI; try first | (exfalso; omega) | (have hT : True := hI; clear hT hI))))
          | ((first | (apply jP; rfl; decide) | (apply jQ; rfl; decide; decide)); (simp (disch := omega) only [push_cast, simprocAttr, hlI, hcF, natNe, zI, zG, zJ, zM, Bool.true_and, zO, beq_self_eq_true, zP, Bool.not_true, zW, zC, Bool.not_false] <;> rfl))
          | ((first | (apply jV cx_ok; decide) | (apply jW cx_ok; decide; decide)); (iterate 2 (simp (disch := omega) only [push_cast, simprocAttr, hlI, hcF, natNe, zI, zG, zJ, zM, Bool.true_and, zO, beq_self_eq_true, zP, Bool.not_true, zW, zC, Bool.not_false] <;> rfl)); (with_reducible first | exact csm | exact c20 | exact c21 | exact c53 | exact c47); try first | rfl | (simp (disch := omega) only [push_cast, simprocAttr, hlI, hcF, natNe, zI, zG, zJ, zM, Bool.true_and, zO, beq_self_eq_true, zP, Bool.not_true, zW, zC, Bool.not_false] <;> rfl))
          | ((first | apply jf | apply jg); (iterate 2 (try (simp (disch := omega) only [push_cast, simprocAttr, hlI, hcF, natNe, zI, zG, zJ, zM, Bool.true_and, zO, beq_self_eq_true, zP, Bool.not_true, zW, zC, Bool.not_false] <;> rfl))))

        all_goals (show _ = _; rfl)
end Go.Proofs.Ks
