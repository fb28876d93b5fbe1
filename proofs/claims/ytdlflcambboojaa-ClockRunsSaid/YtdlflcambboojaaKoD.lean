/-
  Contracts of functions, proved by going through their code. No conditions.
-/
import Derived.Test.YtdlflcambboojaaKaa
import Derived.Test.YtdlflcambboojaaKoC
set_option linter.unusedVariables false
set_option linter.unusedSimpArgs false
set_option maxHeartbeats 8000000
set_option maxRecDepth 10000
namespace Go.Proofs.Ks
open Go Go.Pg Go.Proofs
theorem hasE2 (y : Span) (v : Int) (b : Bool) (h : hasB y v = b) : OKv cx 107 [.agg (eSpan y), ai v] (ab b) := by rw [← h]; exact Has_ok y v
theorem sumP_nn : ∀ {l : List Leg}, (∀ y ∈ l, legB y = true) → 0 ≤ sumP l ∧ 0 ≤ sumT l
  | [], _ => ⟨Int.le_refl _, Int.le_refl _⟩
  | y :: l, h => by
    have h1 := leg_bd (h y (by simp))
    have h2 := sumP_nn (l := l) fun z hz => h z (List.mem_cons_of_mem _ hz)
    simp only [sumP, sumT]
    omega
theorem RPlays_ok (ses : Session) (x : Run) (hst : ses.stops.length ≤ 4) (hx : RunV x) : OKv cx 69 [.agg (eSession ses), .agg (eRun x)] (ab (playsB ses x)) := by
  have hsec : ∀ y ∈ x.legs, 1 ≤ y.secs := fun y hy => (leg_bd (hx.legs y hy)).1
  have hn40 := hx.n
  have c70 := End_ok x hn40 hx.legs hx.start hx.micro
  obtain ⟨n1, n2⟩ := sumP_nn hx.legs
  have z5 := hx.time
  have z6 := hx.start
  have c71 := Place_ok x (x.start + sumT x.legs) hn40 hx.legs hx.start hx.micro (by omega)
  rw [place_end hsec] at c71
  have c108 := fun q => Stood_ok x q hn40 hx.legs hx.start hx.micro
  have hsb := fun q => stood_bd (pos := q) (P := x.micro) hx.legs
  obtain ⟨z1, z2⟩ := hx.micro
  have z4 := hx.place
  have z3 : 0 ≤ x.micro + sumP x.legs := by omega
  unfold playsB endsB
  obtain ⟨TT, hTT⟩ : ∃ z, x.start + sumT x.legs = z := ⟨_, rfl⟩
  obtain ⟨PP, hPP⟩ : ∃ z, x.micro + sumP x.legs = z := ⟨_, rfl⟩
  rw [hTT] at c70 c71
  rw [hPP] at c71 z3 z4
  rw [hTT, hPP]
  cases e1 : hasB ses.inn x.start with
  | false =>
    have hE1 := hasE2 _ _ _ e1
    simp only [Bool.false_and, Bool.true_and]
    refine OKat.of_body (rs := [4]) Try.func69 rfl (by decide +kernel) rfl (by simp [Try.ntmps69]) ?_
    simp only [Try.ntmps69]
    repeat' first
      | apply jA | apply jB | apply jC | apply jD | apply jE | apply jF | apply jG | apply jH | apply jI | apply jJ
      | refine W.draw cx_mixed (by decide +kernel) ?_
      | ((first | (apply jK cx_ok; decide) | (apply jL cx_ok; decide; decide) | (apply jN; rfl; decide) | (apply jO; rfl; decide; decide) | apply jR); (simp (disch := omega) only [push_cast, simprocAttr, z1, z2, z3, z4, natNe, zI, zG, zJ, zM, Bool.true_and, zO, beq_self_eq_true, zP, Bool.not_true, zW, zC] <;> rfl); all_goals try ((with_reducible intro hI); try first | (cases hI; done) | (simp only [INTS, zL] at hI; try first | (exfalso; omega) | (have hT : True := hI; clear hT hI))))
      | ((first | (apply jV cx_ok; decide) | (apply jW cx_ok; decide; decide)); (iterate 2 (simp (disch := omega) only [push_cast, simprocAttr, z1, z2, z3, z4, natNe, zI, zG, zJ, zM, Bool.true_and, zO, beq_self_eq_true, zP, Bool.not_true, zW, zC] <;> rfl)); (with_reducible first | exact c70 | exact c71 | exact hE1); try first | rfl | (simp (disch := omega) only [push_cast, simprocAttr, z1, z2, z3, z4, natNe, zI, zG, zJ, zM, Bool.true_and, zO, beq_self_eq_true, zP, Bool.not_true, zW, zC] <;> rfl))
      | ((first | apply jf | apply jg); (iterate 2 (try (simp (disch := omega) only [push_cast, simprocAttr, z1, z2, z3, z4, natNe, zI, zG, zJ, zM, Bool.true_and, zO, beq_self_eq_true, zP, Bool.not_true, zW, zC] <;> rfl))))

    all_goals (show _ = _; rfl)
  | true =>
  have hE1 := hasE2 _ _ _ e1
  cases e2 : hasB ses.out TT with
  | false =>
    have hE2 := hasE2 _ _ _ e2
    simp only [Bool.false_and, Bool.true_and]
    refine OKat.of_body (rs := [4]) Try.func69 rfl (by decide +kernel) rfl (by simp [Try.ntmps69]) ?_
    simp only [Try.ntmps69]
    repeat' first
      | apply jA | apply jB | apply jC | apply jD | apply jE | apply jF | apply jG | apply jH | apply jI | apply jJ
      | refine W.draw cx_mixed (by decide +kernel) ?_
      | ((first | (apply jK cx_ok; decide) | (apply jL cx_ok; decide; decide) | (apply jN; rfl; decide) | (apply jO; rfl; decide; decide) | apply jR); (simp (disch := omega) only [push_cast, simprocAttr, z1, z2, z3, z4, natNe, zI, zG, zJ, zM, Bool.true_and, zO, beq_self_eq_true, zP, Bool.not_true, zW, zC] <;> rfl); all_goals try ((with_reducible intro hI); try first | (cases hI; done) | (simp only [INTS, zL] at hI; try first | (exfalso; omega) | (have hT : True := hI; clear hT hI))))
      | ((first | (apply jV cx_ok; decide) | (apply jW cx_ok; decide; decide)); (iterate 2 (simp (disch := omega) only [push_cast, simprocAttr, z1, z2, z3, z4, natNe, zI, zG, zJ, zM, Bool.true_and, zO, beq_self_eq_true, zP, Bool.not_true, zW, zC] <;> rfl)); (with_reducible first | exact c70 | exact c71 | exact hE1 | exact hE2); try first | rfl | (simp (disch := omega) only [push_cast, simprocAttr, z1, z2, z3, z4, natNe, zI, zG, zJ, zM, Bool.true_and, zO, beq_self_eq_true, zP, Bool.not_true, zW, zC] <;> rfl))
      | ((first | apply jf | apply jg); (iterate 2 (try (simp (disch := omega) only [push_cast, simprocAttr, z1, z2, z3, z4, natNe, zI, zG, zJ, zM, Bool.true_and, zO, beq_self_eq_true, zP, Bool.not_true, zW, zC] <;> rfl))))

    all_goals (show _ = _; rfl)
  | true =>
  have hE2 := hasE2 _ _ _ e2
  cases e3 : hasB ses.zero (x.micro / 1000000) with
  | false =>
    have hE3 := hasE2 _ _ _ e3
    simp only [Bool.false_and, Bool.true_and]
    refine OKat.of_body (rs := [4]) Try.func69 rfl (by decide +kernel) rfl (by simp [Try.ntmps69]) ?_
    simp only [Try.ntmps69]
    repeat' first
      | apply jA | apply jB | apply jC | apply jD | apply jE | apply jF | apply jG | apply jH | apply jI | apply jJ
      | refine W.draw cx_mixed (by decide +kernel) ?_
      | ((first | (apply jK cx_ok; decide) | (apply jL cx_ok; decide; decide) | (apply jN; rfl; decide) | (apply jO; rfl; decide; decide) | apply jR); (simp (disch := omega) only [push_cast, simprocAttr, z1, z2, z3, z4, natNe, zI, zG, zJ, zM, Bool.true_and, zO, beq_self_eq_true, zP, Bool.not_true, zW, zC] <;> rfl); all_goals try ((with_reducible intro hI); try first | (cases hI; done) | (simp only [INTS, zL] at hI; try first | (exfalso; omega) | (have hT : True := hI; clear hT hI))))
      | ((first | (apply jV cx_ok; decide) | (apply jW cx_ok; decide; decide)); (iterate 2 (simp (disch := omega) only [push_cast, simprocAttr, z1, z2, z3, z4, natNe, zI, zG, zJ, zM, Bool.true_and, zO, beq_self_eq_true, zP, Bool.not_true, zW, zC] <;> rfl)); (with_reducible first | exact c70 | exact c71 | exact hE1 | exact hE2 | exact hE3); try first | rfl | (simp (disch := omega) only [push_cast, simprocAttr, z1, z2, z3, z4, natNe, zI, zG, zJ, zM, Bool.true_and, zO, beq_self_eq_true, zP, Bool.not_true, zW, zC] <;> rfl))
      | ((first | apply jf | apply jg); (iterate 2 (try (simp (disch := omega) only [push_cast, simprocAttr, z1, z2, z3, z4, natNe, zI, zG, zJ, zM, Bool.true_and, zO, beq_self_eq_true, zP, Bool.not_true, zW, zC] <;> rfl))))

    all_goals (show _ = _; rfl)
  | true =>
  have hE3 := hasE2 _ _ _ e3
  cases e4 : hasB ses.fin (PP / 1000000) with
  | false =>
    have hE4 := hasE2 _ _ _ e4
    simp only [Bool.false_and, Bool.true_and]
    refine OKat.of_body (rs := [4]) Try.func69 rfl (by decide +kernel) rfl (by simp [Try.ntmps69]) ?_
    simp only [Try.ntmps69]
    repeat' first
      | apply jA | apply jB | apply jC | apply jD | apply jE | apply jF | apply jG | apply jH | apply jI | apply jJ
      | refine W.draw cx_mixed (by decide +kernel) ?_
      | ((first | (apply jK cx_ok; decide) | (apply jL cx_ok; decide; decide) | (apply jN; rfl; decide) | (apply jO; rfl; decide; decide) | apply jR); (simp (disch := omega) only [push_cast, simprocAttr, z1, z2, z3, z4, natNe, zI, zG, zJ, zM, Bool.true_and, zO, beq_self_eq_true, zP, Bool.not_true, zW, zC] <;> rfl); all_goals try ((with_reducible intro hI); try first | (cases hI; done) | (simp only [INTS, zL] at hI; try first | (exfalso; omega) | (have hT : True := hI; clear hT hI))))
      | ((first | (apply jV cx_ok; decide) | (apply jW cx_ok; decide; decide)); (iterate 2 (simp (disch := omega) only [push_cast, simprocAttr, z1, z2, z3, z4, natNe, zI, zG, zJ, zM, Bool.true_and, zO, beq_self_eq_true, zP, Bool.not_true, zW, zC] <;> rfl)); (with_reducible first | exact c70 | exact c71 | exact hE1 | exact hE2 | exact hE3 | exact hE4); try first | rfl | (simp (disch := omega) only [push_cast, simprocAttr, z1, z2, z3, z4, natNe, zI, zG, zJ, zM, Bool.true_and, zO, beq_self_eq_true, zP, Bool.not_true, zW, zC] <;> rfl))
      | ((first | apply jf | apply jg); (iterate 2 (try (simp (disch := omega) only [push_cast, simprocAttr, z1, z2, z3, z4, natNe, zI, zG, zJ, zM, Bool.true_and, zO, beq_self_eq_true, zP, Bool.not_true, zW, zC] <;> rfl))))

    all_goals (show _ = _; rfl)
  | true =>
  have hE4 := hasE2 _ _ _ e4
  simp only [Bool.true_and]
  obtain ⟨BB, hBB⟩ : ∃ z, (ratesB ses.rate x.legs && (stopsB x.legs x.micro ses.stops && decide (allZ x.legs - sumS2 x.legs x.micro ses.stops = 0))) = z := ⟨_, rfl⟩
  rw [hBB]
  refine OKat.of_body (rs := [4]) Try.func69 rfl (by decide +kernel) rfl (by simp [Try.ntmps69]) ?_
  simp only [Try.ntmps69]
  repeat' first
    | apply jA | apply jB | apply jC | apply jD | apply jE | apply jF | apply jG | apply jH | apply jI | apply jJ
    | refine W.draw cx_mixed (by decide +kernel) ?_
    | ((first | (apply jK cx_ok; decide) | (apply jL cx_ok; decide; decide) | (apply jN; rfl; decide) | (apply jO; rfl; decide; decide) | apply jR); (simp (disch := omega) only [push_cast, simprocAttr, z1, z2, z3, z4, natNe, zI, zG, zJ, zM, Bool.true_and, zO, beq_self_eq_true, zP, Bool.not_true, zW, zC] <;> rfl); all_goals try ((with_reducible intro hI); try first | (cases hI; done) | (simp only [INTS, zL] at hI; try first | (exfalso; omega) | (have hT : True := hI; clear hT hI))))
    | ((first | (apply jV cx_ok; decide) | (apply jW cx_ok; decide; decide)); (iterate 2 (simp (disch := omega) only [push_cast, simprocAttr, z1, z2, z3, z4, natNe, zI, zG, zJ, zM, Bool.true_and, zO, beq_self_eq_true, zP, Bool.not_true, zW, zC] <;> rfl)); (with_reducible first | exact c70 | exact c71 | exact hE1 | exact hE2 | exact hE3 | exact hE4); try first | rfl | (simp (disch := omega) only [push_cast, simprocAttr, z1, z2, z3, z4, natNe, zI, zG, zJ, zM, Bool.true_and, zO, beq_self_eq_true, zP, Bool.not_true, zW, zC] <;> rfl))
    | ((first | apply jf | apply jg); (iterate 2 (try (simp (disch := omega) only [push_cast, simprocAttr, z1, z2, z3, z4, natNe, zI, zG, zJ, zM, Bool.true_and, zO, beq_self_eq_true, zP, Bool.not_true, zW, zC] <;> rfl))))

  refine AW.loop (fun n s => ∃ (k : Nat) (A : Int) (rest : List Leg), n = rest.length ∧ (x.legs.drop k = rest) ∧ ((ratesB ses.rate rest && (stopsB x.legs x.micro ses.stops && decide (A + allZ rest - sumS2 x.legs x.micro ses.stops = 0))) = BB) ∧ (0 ≤ A ∧ A ≤ 36000 * (k : Int)) ∧ (k ≤ x.legs.length) ∧ 2 ≤ s.nx ∧ s.tm 2 = .ptr 0 0 0 1 ∧ s.tm 3 = .ptr 1 0 0 1 ∧ s.tm 6 = ai A ∧ s.tm 7 = ai k ∧ Pg.rowAt s.H (0) = some ({ k := 12, es := [eSession ses], ty := 26 }) ∧ Pg.rowAt s.H (1) = some ({ k := 3, es := [eRun x], ty := 100 })) (x.legs.length) ⟨0, 0, x.legs, rfl, rfl, (by rw [Int.zero_add]; exact hBB), ⟨Int.le_refl _, (by omega)⟩, (Nat.zero_le _), ?_, ?_, ?_, ?_, ?_, ?_, ?_⟩ ?_
  iterate 7 (first | (simp (disch := omega) only [push_cast, simprocAttr, natNe, zI, zG, zJ, zM, Bool.true_and, zO, beq_self_eq_true, zP, Bool.not_true, zW, zC] <;> first | rfl | omega) | omega)
  rintro n1 s1 ⟨k1, A1, rest1, hn1, hp01, hp11, hp21, hp31, hnl1, hS1⟩
  have hZ1 : (0 : Nat) ≠ s1.nx ∧ s1.nx ≠ (0 : Nat) ∧ (1 : Nat) ≠ s1.nx ∧ s1.nx ≠ (1 : Nat) := by omega
  rcases rest1 with _ | ⟨y, rest1⟩
  rotate_left
  · obtain ⟨hk, hg, hd', hl', hm, hx9⟩ := drop_cons hp01 eLeg []
    have hkl := len_le hp01
    obtain ⟨q1, q2, q3, q4, q5, q6⟩ := leg_bd (hx.legs y hm)
    by_cases hy0 : y.rate = 0
    · have hyT : (y.rate = 0) = True := eq_true hy0
      have hp2 : (ratesB ses.rate rest1 && (stopsB x.legs x.micro ses.stops && decide (A1 + y.secs + allZ rest1 - sumS2 x.legs x.micro ses.stops = 0))) = BB := by
        rw [← hp11, show ratesB ses.rate (y :: rest1) = ratesB ses.rate rest1 by simp [ratesB, hy0], show allZ (y :: rest1) = y.secs + allZ rest1 by simp [allZ, hy0], Int.add_assoc]
      repeat' first
        | apply jA | apply jB | apply jC | apply jD | apply jE | apply jF | apply jG | apply jH | apply jI | apply jJ
        | refine W.draw cx_mixed (by decide +kernel) ?_
        | ((first | (apply jK cx_ok; decide) | (apply jL cx_ok; decide; decide) | (apply jN; rfl; decide) | (apply jO; rfl; decide; decide) | apply jR); (simp (disch := omega) only [push_cast, simprocAttr, hS1, hZ1, hk, hg, hx9, hyT, natNe, zI, zG, zJ, zM, Bool.true_and, zO, beq_self_eq_true, zP, Bool.not_true, zW, zC] <;> rfl); all_goals try ((with_reducible intro hI); try first | (cases hI; done) | (simp only [INTS, zL] at hI; try first | (exfalso; omega) | (have hT : True := hI; clear hT hI))))
        | ((first | apply jf | apply jg); (iterate 2 (try (simp (disch := omega) only [push_cast, simprocAttr, hS1, hZ1, hk, hg, hx9, hyT, natNe, zI, zG, zJ, zM, Bool.true_and, zO, beq_self_eq_true, zP, Bool.not_true, zW, zC] <;> rfl))))

      all_goals (refine ⟨rest1.length, ?_, k1 + 1, A1 + y.secs, rest1, rfl, hd', hp2, (by omega), (by omega), ?_, ?_, ?_, ?_, ?_, ?_, ?_⟩; ((simp only [zD] at *; omega)); all_goals first | (simp (disch := omega) only [push_cast, simprocAttr, hS1, hZ1, hk, hg, hx9, hyT, natNe, zI, zG, zJ, zM, Bool.true_and, zO, beq_self_eq_true, zP, Bool.not_true, zW, zC] <;> first | rfl | omega) | omega)
    · have hyF : (y.rate = 0) = False := eq_false hy0
      cases hh : hasB ses.rate y.rate with
      | true =>
        have c107 := hasE2 _ _ _ hh
        have hp2 : (ratesB ses.rate rest1 && (stopsB x.legs x.micro ses.stops && decide (A1 + allZ rest1 - sumS2 x.legs x.micro ses.stops = 0))) = BB := by
          rw [← hp11, show ratesB ses.rate (y :: rest1) = ratesB ses.rate rest1 by simp [ratesB, hh], show allZ (y :: rest1) = allZ rest1 by simp [allZ, hy0]]
        repeat' first
          | apply jA | apply jB | apply jC | apply jD | apply jE | apply jF | apply jG | apply jH | apply jI | apply jJ
          | refine W.draw cx_mixed (by decide +kernel) ?_
          | ((first | (apply jK cx_ok; decide) | (apply jL cx_ok; decide; decide) | (apply jN; rfl; decide) | (apply jO; rfl; decide; decide) | apply jR); (simp (disch := omega) only [push_cast, simprocAttr, hS1, hZ1, hk, hg, hx9, hyF, natNe, zI, zG, zJ, zM, Bool.true_and, zO, beq_self_eq_true, zP, Bool.not_true, zW, zC] <;> rfl); all_goals try ((with_reducible intro hI); try first | (cases hI; done) | (simp only [INTS, zL] at hI; try first | (exfalso; omega) | (have hT : True := hI; clear hT hI))))
          | ((first | (apply jV cx_ok; decide) | (apply jW cx_ok; decide; decide)); (iterate 2 (simp (disch := omega) only [push_cast, simprocAttr, hS1, hZ1, hk, hg, hx9, hyF, natNe, zI, zG, zJ, zM, Bool.true_and, zO, beq_self_eq_true, zP, Bool.not_true, zW, zC] <;> rfl)); (with_reducible first | exact c107); try first | rfl | (simp (disch := omega) only [push_cast, simprocAttr, hS1, hZ1, hk, hg, hx9, hyF, natNe, zI, zG, zJ, zM, Bool.true_and, zO, beq_self_eq_true, zP, Bool.not_true, zW, zC] <;> rfl))
          | ((first | apply jf | apply jg); (iterate 2 (try (simp (disch := omega) only [push_cast, simprocAttr, hS1, hZ1, hk, hg, hx9, hyF, natNe, zI, zG, zJ, zM, Bool.true_and, zO, beq_self_eq_true, zP, Bool.not_true, zW, zC] <;> rfl))))

        all_goals (refine ⟨rest1.length, ?_, k1 + 1, A1, rest1, rfl, hd', hp2, (by omega), (by omega), ?_, ?_, ?_, ?_, ?_, ?_, ?_⟩; ((simp only [zD] at *; omega)); all_goals first | (simp (disch := omega) only [push_cast, simprocAttr, hS1, hZ1, hk, hg, hx9, hyF, natNe, zI, zG, zJ, zM, Bool.true_and, zO, beq_self_eq_true, zP, Bool.not_true, zW, zC] <;> first | rfl | omega) | omega)
      | false =>
        have c107 := hasE2 _ _ _ hh
        have hp2 : false = BB := by rw [← hp11, show ratesB ses.rate (y :: rest1) = false by unfold ratesB; rw [List.all_cons, hh, decide_eq_false hy0]; rfl, Bool.false_and]
        subst hp2
        repeat' first
          | apply jA | apply jB | apply jC | apply jD | apply jE | apply jF | apply jG | apply jH | apply jI | apply jJ
          | refine W.draw cx_mixed (by decide +kernel) ?_
          | ((first | (apply jK cx_ok; decide) | (apply jL cx_ok; decide; decide) | (apply jN; rfl; decide) | (apply jO; rfl; decide; decide) | apply jR); (simp (disch := omega) only [push_cast, simprocAttr, hS1, hZ1, hk, hg, hx9, hyF, natNe, zI, zG, zJ, zM, Bool.true_and, zO, beq_self_eq_true, zP, Bool.not_true, zW, zC] <;> rfl); all_goals try ((with_reducible intro hI); try first | (cases hI; done) | (simp only [INTS, zL] at hI; try first | (exfalso; omega) | (have hT : True := hI; clear hT hI))))
          | ((first | (apply jV cx_ok; decide) | (apply jW cx_ok; decide; decide)); (iterate 2 (simp (disch := omega) only [push_cast, simprocAttr, hS1, hZ1, hk, hg, hx9, hyF, natNe, zI, zG, zJ, zM, Bool.true_and, zO, beq_self_eq_true, zP, Bool.not_true, zW, zC] <;> rfl)); (with_reducible first | exact c107); try first | rfl | (simp (disch := omega) only [push_cast, simprocAttr, hS1, hZ1, hk, hg, hx9, hyF, natNe, zI, zG, zJ, zM, Bool.true_and, zO, beq_self_eq_true, zP, Bool.not_true, zW, zC] <;> rfl))
          | ((first | apply jf | apply jg); (iterate 2 (try (simp (disch := omega) only [push_cast, simprocAttr, hS1, hZ1, hk, hg, hx9, hyF, natNe, zI, zG, zJ, zM, Bool.true_and, zO, beq_self_eq_true, zP, Bool.not_true, zW, zC] <;> rfl))))

        all_goals (show _ = _; rfl)
  have hk := drop_nil hp01
  have hp3 : (stopsB x.legs x.micro ses.stops && decide (A1 - sumS2 x.legs x.micro ses.stops = 0)) = BB := by
    rw [← hp11]; simp [ratesB, allZ]
  clear hp11
  repeat' first
    | apply jA | apply jB | apply jC | apply jD | apply jE | apply jF | apply jG | apply jH | apply jI | apply jJ
    | refine W.draw cx_mixed (by decide +kernel) ?_
    | ((first | (apply jK cx_ok; decide) | (apply jL cx_ok; decide; decide) | (apply jN; rfl; decide) | (apply jO; rfl; decide; decide) | apply jR); (simp (disch := omega) only [push_cast, simprocAttr, hS1, hZ1, hk, natNe, zI, zG, zJ, zM, Bool.true_and, zO, beq_self_eq_true, zP, Bool.not_true, zW, zC] <;> rfl); all_goals try ((with_reducible intro hI); try first | (cases hI; done) | (simp only [INTS, zL] at hI; try first | (exfalso; omega) | (have hT : True := hI; clear hT hI))))
    | ((first | apply jf | apply jg); (iterate 2 (try (simp (disch := omega) only [push_cast, simprocAttr, hS1, hZ1, hk, natNe, zI, zG, zJ, zM, Bool.true_and, zO, beq_self_eq_true, zP, Bool.not_true, zW, zC] <;> rfl))))

  refine AW.loop (fun n s => ∃ (k : Nat) (A : Int) (rest : List Stop), n = rest.length ∧ (ses.stops.drop k = rest) ∧ ((stopsB x.legs x.micro rest && decide (A - sumS2 x.legs x.micro rest = 0)) = BB) ∧ (-1440000 * (k : Int) ≤ A ∧ A ≤ 2000000) ∧ (k ≤ ses.stops.length) ∧ 2 ≤ s.nx ∧ s.tm 2 = .ptr 0 0 0 1 ∧ s.tm 3 = .ptr 1 0 0 1 ∧ s.tm 6 = ai A ∧ s.tm 8 = ai k ∧ Pg.rowAt s.H (0) = some ({ k := 12, es := [eSession ses], ty := 26 }) ∧ Pg.rowAt s.H (1) = some ({ k := 3, es := [eRun x], ty := 100 })) (ses.stops.length) ⟨0, A1, ses.stops, rfl, rfl, hp3, ⟨(by omega), (by omega)⟩, (Nat.zero_le _), ?_, ?_, ?_, ?_, ?_, ?_, ?_⟩ ?_
  iterate 7 (first | (simp (disch := omega) only [push_cast, simprocAttr, natNe, zI, zG, zJ, zM, Bool.true_and, zO, beq_self_eq_true, zP, Bool.not_true, zW, zC, hS1, hZ1, hk] <;> first | rfl | omega) | omega)
  rintro n2 s2 ⟨k2, A2, rest2, hn2, hp02, hp12, hp22, hp32, hnl2, hS2⟩
  have hZ2 : (0 : Nat) ≠ s2.nx ∧ s2.nx ≠ (0 : Nat) ∧ (1 : Nat) ≠ s2.nx ∧ s2.nx ≠ (1 : Nat) := by omega
  rcases rest2 with _ | ⟨y, rest2⟩
  rotate_left
  · obtain ⟨hk2, hg, hd', hl', hm, hx9⟩ := drop_cons hp02 eStop []
    have hkl := len_le hp02
    have c8 := c108 y.pos
    have hb8 := hsb y.pos
    have hp4 : (hasB y.secs (stoodZ x.legs x.micro y.pos) && (stopsB x.legs x.micro rest2 && decide (A2 - stoodZ x.legs x.micro y.pos - sumS2 x.legs x.micro rest2 = 0))) = BB := by
      rw [← hp12, show stopsB x.legs x.micro (y :: rest2) = (hasB y.secs (stoodZ x.legs x.micro y.pos) && stopsB x.legs x.micro rest2) by simp [stopsB], Bool.and_assoc]
      exact congrArg (fun b => hasB y.secs (stoodZ x.legs x.micro y.pos) && (stopsB x.legs x.micro rest2 && b)) (decide_eq_decide.2 (by simp only [sumS2]; omega))
    obtain ⟨V, hV⟩ : ∃ z, stoodZ x.legs x.micro y.pos = z := ⟨_, rfl⟩
    rw [hV] at c8 hb8 hp4
    have hk4 : (k2 : Int) ≤ 4 := by omega
    cases hh : hasB y.secs V with
    | true =>
      have c107 := hasE2 _ _ _ hh
      rw [hh, Bool.true_and] at hp4
      repeat' first
        | apply jA | apply jB | apply jC | apply jD | apply jE | apply jF | apply jG | apply jH | apply jI | apply jJ
        | refine W.draw cx_mixed (by decide +kernel) ?_
        | ((first | (apply jK cx_ok; decide) | (apply jL cx_ok; decide; decide) | (apply jN; rfl; decide) | (apply jO; rfl; decide; decide) | apply jR); (simp (disch := omega) only [push_cast, simprocAttr, hS2, hZ2, hk2, hg, hx9, natNe, zI, zG, zJ, zM, Bool.true_and, zO, beq_self_eq_true, zP, Bool.not_true, zW, zC] <;> rfl); all_goals try ((with_reducible intro hI); try first | (cases hI; done) | (simp only [INTS, zL] at hI; try first | (exfalso; omega) | (have hT : True := hI; clear hT hI))))
        | ((first | (apply jV cx_ok; decide) | (apply jW cx_ok; decide; decide)); (iterate 2 (simp (disch := omega) only [push_cast, simprocAttr, hS2, hZ2, hk2, hg, hx9, natNe, zI, zG, zJ, zM, Bool.true_and, zO, beq_self_eq_true, zP, Bool.not_true, zW, zC] <;> rfl)); (with_reducible first | exact c107 | exact c8); try first | rfl | (simp (disch := omega) only [push_cast, simprocAttr, hS2, hZ2, hk2, hg, hx9, natNe, zI, zG, zJ, zM, Bool.true_and, zO, beq_self_eq_true, zP, Bool.not_true, zW, zC] <;> rfl))
        | ((first | apply jf | apply jg); (iterate 2 (try (simp (disch := omega) only [push_cast, simprocAttr, hS2, hZ2, hk2, hg, hx9, natNe, zI, zG, zJ, zM, Bool.true_and, zO, beq_self_eq_true, zP, Bool.not_true, zW, zC] <;> rfl))))

      all_goals (refine ⟨rest2.length, ?_, k2 + 1, A2 - V, rest2, rfl, hd', hp4, (by omega), (by omega), ?_, ?_, ?_, ?_, ?_, ?_, ?_⟩; ((simp only [zD] at *; omega)); all_goals first | (simp (disch := omega) only [push_cast, simprocAttr, hS2, hZ2, hk2, hg, hx9, natNe, zI, zG, zJ, zM, Bool.true_and, zO, beq_self_eq_true, zP, Bool.not_true, zW, zC] <;> first | rfl | omega) | omega)
    | false =>
      have c107 := hasE2 _ _ _ hh
      rw [hh, Bool.false_and] at hp4
      subst hp4
      repeat' first
        | apply jA | apply jB | apply jC | apply jD | apply jE | apply jF | apply jG | apply jH | apply jI | apply jJ
        | refine W.draw cx_mixed (by decide +kernel) ?_
        | ((first | (apply jK cx_ok; decide) | (apply jL cx_ok; decide; decide) | (apply jN; rfl; decide) | (apply jO; rfl; decide; decide) | apply jR); (simp (disch := omega) only [push_cast, simprocAttr, hS2, hZ2, hk2, hg, hx9, natNe, zI, zG, zJ, zM, Bool.true_and, zO, beq_self_eq_true, zP, Bool.not_true, zW, zC] <;> rfl); all_goals try ((with_reducible intro hI); try first | (cases hI; done) | (simp only [INTS, zL] at hI; try first | (exfalso; omega) | (have hT : True := hI; clear hT hI))))
        | ((first | (apply jV cx_ok; decide) | (apply jW cx_ok; decide; decide)); (iterate 2 (simp (disch := omega) only [push_cast, simprocAttr, hS2, hZ2, hk2, hg, hx9, natNe, zI, zG, zJ, zM, Bool.true_and, zO, beq_self_eq_true, zP, Bool.not_true, zW, zC] <;> rfl)); (with_reducible first | exact c107 | exact c8); try first | rfl | (simp (disch := omega) only [push_cast, simprocAttr, hS2, hZ2, hk2, hg, hx9, natNe, zI, zG, zJ, zM, Bool.true_and, zO, beq_self_eq_true, zP, Bool.not_true, zW, zC] <;> rfl))
        | ((first | apply jf | apply jg); (iterate 2 (try (simp (disch := omega) only [push_cast, simprocAttr, hS2, hZ2, hk2, hg, hx9, natNe, zI, zG, zJ, zM, Bool.true_and, zO, beq_self_eq_true, zP, Bool.not_true, zW, zC] <;> rfl))))

      all_goals (show _ = _; rfl)
  have hk2 := drop_nil hp02
  have hp5 : decide (A2 = 0) = BB := by rw [← hp12]; simp [stopsB, sumS2]
  by_cases hA : A2 = 0
  · have hAT : (A2 == 0) = true := by rw [hA]; rfl
    rw [decide_eq_true hA] at hp5
    subst hp5
    repeat' first
      | apply jA | apply jB | apply jC | apply jD | apply jE | apply jF | apply jG | apply jH | apply jI | apply jJ
      | refine W.draw cx_mixed (by decide +kernel) ?_
      | ((first | (apply jK cx_ok; decide) | (apply jL cx_ok; decide; decide) | (apply jN; rfl; decide) | (apply jO; rfl; decide; decide) | apply jR); (simp (disch := omega) only [push_cast, simprocAttr, hS2, hZ2, hk2, hAT, natNe, zI, zG, zJ, zM, Bool.true_and, zO, beq_self_eq_true, zP, Bool.not_true, zW, zC] <;> rfl); all_goals try ((with_reducible intro hI); try first | (cases hI; done) | (simp only [INTS, zL] at hI; try first | (exfalso; omega) | (have hT : True := hI; clear hT hI))))
      | ((first | apply jf | apply jg); (iterate 2 (try (simp (disch := omega) only [push_cast, simprocAttr, hS2, hZ2, hk2, hAT, natNe, zI, zG, zJ, zM, Bool.true_and, zO, beq_self_eq_true, zP, Bool.not_true, zW, zC] <;> rfl))))

    all_goals (show _ = _; rfl)
  · have hAF : (A2 == 0) = false := beq_false_of_ne hA
    rw [decide_eq_false hA] at hp5
    subst hp5
    repeat' first
      | apply jA | apply jB | apply jC | apply jD | apply jE | apply jF | apply jG | apply jH | apply jI | apply jJ
      | refine W.draw cx_mixed (by decide +kernel) ?_
      | ((first | (apply jK cx_ok; decide) | (apply jL cx_ok; decide; decide) | (apply jN; rfl; decide) | (apply jO; rfl; decide; decide) | apply jR); (simp (disch := omega) only [push_cast, simprocAttr, hS2, hZ2, hk2, hAF, natNe, zI, zG, zJ, zM, Bool.true_and, zO, beq_self_eq_true, zP, Bool.not_true, zW, zC] <;> rfl); all_goals try ((with_reducible intro hI); try first | (cases hI; done) | (simp only [INTS, zL] at hI; try first | (exfalso; omega) | (have hT : True := hI; clear hT hI))))
      | ((first | apply jf | apply jg); (iterate 2 (try (simp (disch := omega) only [push_cast, simprocAttr, hS2, hZ2, hk2, hAF, natNe, zI, zG, zJ, zM, Bool.true_and, zO, beq_self_eq_true, zP, Bool.not_true, zW, zC] <;> rfl))))

    all_goals (show _ = _; rfl)
end Go.Proofs.Ks
