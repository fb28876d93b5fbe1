/-
  Contracts of functions, proved by going through their code. No conditions.
-/
import Derived.Test.YtdlflcambboojaaKaa
import Derived.Test.YtdlflcambboojaaKoB
set_option linter.unusedVariables false
set_option linter.unusedSimpArgs false
set_option maxHeartbeats 8000000
set_option maxRecDepth 10000
namespace Go.Proofs.Ks
open Go Go.Pg Go.Proofs
theorem sumT_app : ∀ (a b : List Leg), sumT (a ++ b) = sumT a + sumT b
  | [], b => by simp [sumT]
  | y :: a, b => by simp only [yB, sumT, sumT_app a b]; omega
theorem sumP_app : ∀ (a b : List Leg), sumP (a ++ b) = sumP a + sumP b
  | [], b => by simp [sumP]
  | y :: a, b => by simp only [yB, sumP, sumP_app a b]; omega
theorem runT_eq : ∀ (l : List Leg) (T P : Int), runT l T P = if l.all legB = true then (if 1073741823 < T + sumT l ∨ 43200000000 ≤ P + sumP l then 1 else 0) else 1
  | [], T, P => by simp [runT, sumT, sumP]
  | y :: l, T, P => by
    unfold runT
    rw [List.all_cons]
    cases h : legB y with
    | true => rw [if_pos rfl, runT_eq l, Bool.true_and]; simp only [sumT, sumP, Int.add_assoc]; split <;> rfl
    | false => rw [if_neg (by decide), Bool.false_and, if_neg (by decide)]
theorem End_ok (x : Run) (hn40 : x.legs.length ≤ 40) (hlg : ∀ y ∈ x.legs, legB y = true) (hst : 0 ≤ x.start ∧ x.start ≤ 1073741823) (hmi : 0 ≤ x.micro ∧ x.micro < 43200000000) : OKv cx 70 [.agg (eRun x)] (ai (x.start + sumT x.legs)) := by
  obtain ⟨b1, b2⟩ := hst
  obtain ⟨TT, hT⟩ : ∃ z, x.start + sumT x.legs = z := ⟨_, rfl⟩
  rw [hT]
  refine OKat.of_body (rs := [2]) Try.func70 rfl (by decide +kernel) rfl (by simp [Try.ntmps70]) ?_
  simp only [Try.ntmps70]
  repeat' first
    | apply jA | apply jB | apply jC | apply jD | apply jE | apply jF | apply jG | apply jH | apply jI
    | ((first | (apply jK cx_ok; decide) | apply jR); (simp (disch := omega) only [push_cast, simprocAttr, natNe, zI, zG, zJ, zM, Bool.true_and, zO, beq_self_eq_true, zP, Bool.not_true, zW, zC] <;> rfl); all_goals try ((with_reducible intro hI); try first | (cases hI; done) | (simp only [INTS, zL] at hI; try first | (exfalso; omega) | (have hT : True := hI; clear hT hI))))
    | ((first | apply jf | apply jg); (iterate 2 (try (simp (disch := omega) only [push_cast, simprocAttr, natNe, zI, zG, zJ, zM, Bool.true_and, zO, beq_self_eq_true, zP, Bool.not_true, zW, zC] <;> rfl))))

  refine AW.loop (fun n s => ∃ (k : Nat) (T : Int) (rest : List Leg), n = rest.length ∧ (x.legs.drop k = rest) ∧ (T + sumT rest = TT) ∧ (0 ≤ T ∧ T ≤ 1073741823 + 36000 * (k : Int)) ∧ (k ≤ x.legs.length) ∧ 1 ≤ s.nx ∧ s.tm 1 = .ptr 0 0 0 1 ∧ s.tm 3 = ai T ∧ s.tm 4 = ai k ∧ Pg.rowAt s.H (0) = some ({ k := 3, es := [eRun x], ty := 100 })) (x.legs.length) ⟨0, x.start, x.legs, rfl, rfl, hT, ⟨b1, (by omega)⟩, (Nat.zero_le _), ?_, ?_, ?_, ?_, ?_⟩ ?_
  iterate 5 (first | (simp (disch := omega) only [push_cast, simprocAttr, natNe, zI, zG, zJ, zM, Bool.true_and, zO, beq_self_eq_true, zP, Bool.not_true, zW, zC] <;> first | rfl | omega) | omega)
  rintro n s ⟨k, T, rest, hn, hp0, hp1, hp2, hp3, hnl, hS⟩
  have hZ : (0 : Nat) ≠ s.nx ∧ s.nx ≠ (0 : Nat) := by omega
  rcases rest with _ | ⟨y, rest⟩
  · have hk := drop_nil hp0
    simp only [sumT, Int.add_zero] at hp1
    subst hp1
    repeat' first
      | apply jA | apply jB | apply jC | apply jD | apply jE | apply jF | apply jG | apply jH | apply jI
      | ((first | (apply jK cx_ok; decide) | apply jR); (simp (disch := omega) only [push_cast, simprocAttr, hS, hZ, hk, natNe, zI, zG, zJ, zM, Bool.true_and, zO, beq_self_eq_true, zP, Bool.not_true, zW, zC] <;> rfl); all_goals try ((with_reducible intro hI); try first | (cases hI; done) | (simp only [INTS, zL] at hI; try first | (exfalso; omega) | (have hT : True := hI; clear hT hI))))
      | ((first | apply jf | apply jg); (iterate 2 (try (simp (disch := omega) only [push_cast, simprocAttr, hS, hZ, hk, natNe, zI, zG, zJ, zM, Bool.true_and, zO, beq_self_eq_true, zP, Bool.not_true, zW, zC] <;> rfl))))

    all_goals (show _ = _; rfl)
  · obtain ⟨hk, hg, hd', hl', hm, hx9⟩ := drop_cons hp0 eLeg []
    have hkl := len_le hp0
    obtain ⟨q1, q2, q3, q4, q5, q6⟩ := leg_bd (hlg y hm)
    simp only [sumT] at hp1
    repeat' first
      | apply jA | apply jB | apply jC | apply jD | apply jE | apply jF | apply jG | apply jH | apply jI
      | ((first | (apply jK cx_ok; decide) | apply jR); (simp (disch := omega) only [push_cast, simprocAttr, hS, hZ, hk, hg, hx9, natNe, zI, zG, zJ, zM, Bool.true_and, zO, beq_self_eq_true, zP, Bool.not_true, zW, zC] <;> rfl); all_goals try ((with_reducible intro hI); try first | (cases hI; done) | (simp only [INTS, zL] at hI; try first | (exfalso; omega) | (have hT : True := hI; clear hT hI))))
      | ((first | apply jf | apply jg); (iterate 2 (try (simp (disch := omega) only [push_cast, simprocAttr, hS, hZ, hk, hg, hx9, natNe, zI, zG, zJ, zM, Bool.true_and, zO, beq_self_eq_true, zP, Bool.not_true, zW, zC] <;> rfl))))

    all_goals (refine ⟨rest.length, ?_, k + 1, T + y.secs, rest, rfl, hd', (by omega), (by omega), (by omega), ?_, ?_, ?_, ?_, ?_⟩; ((simp only [zD] at *; omega)); all_goals first | (simp (disch := omega) only [push_cast, simprocAttr, hS, hZ, hk, hg, hx9, natNe, zI, zG, zJ, zM, Bool.true_and, zO, beq_self_eq_true, zP, Bool.not_true, zW, zC] <;> first | rfl | omega) | omega)
theorem Place_ok (x : Run) (t : Int) (hn40 : x.legs.length ≤ 40) (hlg : ∀ y ∈ x.legs, legB y = true) (hst : 0 ≤ x.start ∧ x.start ≤ 1073741823) (hmi : 0 ≤ x.micro ∧ x.micro < 43200000000) (ht : 0 ≤ t ∧ t ≤ 4000000000) : OKv cx 71 [.agg (eRun x), ai t] (ai (placeF x.legs x.micro x.start t)) := by
  obtain ⟨b1, b2⟩ := hst
  obtain ⟨b3, b4⟩ := hmi
  obtain ⟨b5, b6⟩ := ht
  obtain ⟨RR, hRR⟩ : ∃ z, placeF x.legs x.micro x.start t = z := ⟨_, rfl⟩
  rw [hRR]
  refine OKat.of_body (rs := [4]) Try.func71 rfl (by decide +kernel) rfl (by simp [Try.ntmps71]) ?_
  simp only [Try.ntmps71]
  repeat' first
    | apply jA | apply jB | apply jC | apply jD | apply jE | apply jF | apply jG | apply jH | apply jI | apply jJ
    | refine W.draw cx_mixed (by decide +kernel) ?_
    | ((first | (apply jK cx_ok; decide) | (apply jL cx_ok; decide; decide) | apply jR); (simp (disch := omega) only [push_cast, simprocAttr, natNe, zI, zG, zJ, zM, Bool.true_and, zO, beq_self_eq_true, zP, Bool.not_true, zW, zC] <;> rfl); all_goals try ((with_reducible intro hI); try first | (cases hI; done) | (simp only [INTS, zL] at hI; try first | (exfalso; omega) | (have hT : True := hI; clear hT hI))))
    | ((first | apply jf | apply jg); (iterate 2 (try (simp (disch := omega) only [push_cast, simprocAttr, natNe, zI, zG, zJ, zM, Bool.true_and, zO, beq_self_eq_true, zP, Bool.not_true, zW, zC] <;> rfl))))

  refine AW.loop (fun n s => ∃ (k : Nat) (o m : Int) (rest : List Leg), n = rest.length ∧ (x.legs.drop k = rest) ∧ (placeF rest o m t = RR) ∧ (0 ≤ o ∧ o ≤ 43200000000 + 39600000000 * (k : Int)) ∧ (0 ≤ m ∧ m ≤ 1073741823 + 36000 * (k : Int)) ∧ (k ≤ x.legs.length) ∧ 1 ≤ s.nx ∧ s.tm 1 = ai t ∧ s.tm 2 = .ptr 0 0 0 1 ∧ s.tm 5 = ai o ∧ s.tm 6 = ai m ∧ s.tm 7 = ai k ∧ Pg.rowAt s.H (0) = some ({ k := 3, es := [eRun x], ty := 100 })) (x.legs.length) ⟨0, x.micro, x.start, x.legs, rfl, rfl, hRR, ⟨b3, (by omega)⟩, ⟨b1, (by omega)⟩, (Nat.zero_le _), ?_, ?_, ?_, ?_, ?_, ?_, ?_⟩ ?_
  iterate 7 (first | (simp (disch := omega) only [push_cast, simprocAttr, natNe, zI, zG, zJ, zM, Bool.true_and, zO, beq_self_eq_true, zP, Bool.not_true, zW, zC] <;> first | rfl | omega) | omega)
  rintro n s ⟨k, o, m, rest, hn, hp0, hp1, hp2, hp3, hp4, hnl, hS⟩
  have hZ : (0 : Nat) ≠ s.nx ∧ s.nx ≠ (0 : Nat) := by omega
  rcases rest with _ | ⟨y, rest⟩
  · have hk := drop_nil hp0
    simp only [placeF] at hp1
    subst hp1
    repeat' first
      | apply jA | apply jB | apply jC | apply jD | apply jE | apply jF | apply jG | apply jH | apply jI | apply jJ
      | refine W.draw cx_mixed (by decide +kernel) ?_
      | ((first | (apply jK cx_ok; decide) | (apply jL cx_ok; decide; decide) | apply jR); (simp (disch := omega) only [push_cast, simprocAttr, hS, hZ, hk, natNe, zI, zG, zJ, zM, Bool.true_and, zO, beq_self_eq_true, zP, Bool.not_true, zW, zC] <;> rfl); all_goals try ((with_reducible intro hI); try first | (cases hI; done) | (simp only [INTS, zL] at hI; try first | (exfalso; omega) | (have hT : True := hI; clear hT hI))))
      | ((first | apply jf | apply jg); (iterate 2 (try (simp (disch := omega) only [push_cast, simprocAttr, hS, hZ, hk, natNe, zI, zG, zJ, zM, Bool.true_and, zO, beq_self_eq_true, zP, Bool.not_true, zW, zC] <;> rfl))))

    all_goals (show _ = _; rfl)
  · obtain ⟨hk, hg, hd', hl', hm, hx9⟩ := drop_cons hp0 eLeg []
    have hkl := len_le hp0
    obtain ⟨q1, q2, q3, q4, q5, q6⟩ := leg_bd (hlg y hm)
    unfold placeF at hp1
    obtain ⟨m1, m2⟩ := mul_bd (a := min (max 0 (t - m)) y.secs) (b := y.rate) (A := 36000) (B := 1100000) (by omega) (by omega) q3 q4
    obtain ⟨MX, hMX⟩ : ∃ z, max 0 (t - m) = z := ⟨_, rfl⟩
    rw [hMX] at hp1 m1 m2
    obtain ⟨MN, hMN⟩ : ∃ z, min MX y.secs = z := ⟨_, rfl⟩
    rw [hMN] at hp1 m1 m2
    have hMX2 : max (t - m) 0 = MX := by omega
    have hk40 : (k : Int) ≤ 40 := by omega
    clear hp4
    repeat' first
      | apply jA | apply jB | apply jC | apply jD | apply jE | apply jF | apply jG | apply jH | apply jI | apply jJ
      | refine W.draw cx_mixed (by decide +kernel) ?_
      | ((first | (apply jK cx_ok; decide) | (apply jL cx_ok; decide; decide) | apply jR); (simp (disch := omega) only [push_cast, simprocAttr, hS, hZ, hk, hg, hx9, hMX, hMX2, hMN, natNe, zI, zG, zJ, zM, Bool.true_and, zO, beq_self_eq_true, zP, Bool.not_true, zW, zC] <;> rfl); all_goals try ((with_reducible intro hI); try first | (cases hI; done) | (simp only [INTS, zL] at hI; try first | (exfalso; omega) | (have hT : True := hI; clear hT hI))))
      | ((first | apply jf | apply jg); (iterate 2 (try (simp (disch := omega) only [push_cast, simprocAttr, hS, hZ, hk, hg, hx9, hMX, hMX2, hMN, natNe, zI, zG, zJ, zM, Bool.true_and, zO, beq_self_eq_true, zP, Bool.not_true, zW, zC] <;> rfl))))

    all_goals (refine ⟨rest.length, ?_, k + 1, o + MN * y.rate, m + y.secs, rest, rfl, hd', hp1, (by omega), (by omega), (by omega), ?_, ?_, ?_, ?_, ?_, ?_, ?_⟩; ((simp only [zD] at *; omega)); all_goals first | (simp (disch := omega) only [push_cast, simprocAttr, hS, hZ, hk, hg, hx9, hMX, hMX2, hMN, natNe, zI, zG, zJ, zM, Bool.true_and, zO, beq_self_eq_true, zP, Bool.not_true, zW, zC] <;> first | rfl | omega) | omega)
theorem stood_bd {pos : Int} : ∀ {l : List Leg} {P : Int}, (∀ y ∈ l, legB y = true) → 0 ≤ stoodZ l P pos ∧ stoodZ l P pos ≤ 36000 * (l.length : Int)
  | [], _, _ => by simp [stoodZ]
  | y :: l, P, h => by
    have h1 := leg_bd (h y (by simp))
    have h2 := stood_bd (pos := pos) (l := l) (P := P + y.secs * y.rate) fun z hz => h z (List.mem_cons_of_mem _ hz)
    unfold stoodZ
    rw [List.length_cons]
    split <;> omega
theorem Stood_ok (x : Run) (pos : Int) (hn40 : x.legs.length ≤ 40) (hlg : ∀ y ∈ x.legs, legB y = true) (hst : 0 ≤ x.start ∧ x.start ≤ 1073741823) (hmi : 0 ≤ x.micro ∧ x.micro < 43200000000) : OKv cx 108 [.agg (eRun x), ai pos] (ai (stoodZ x.legs x.micro pos)) := by
  have hsec : ∀ y ∈ x.legs, 1 ≤ y.secs := fun y hy => (leg_bd (hlg y hy)).1
  have hpl : ∀ k, placeF x.legs x.micro x.start (x.start + sumT (x.legs.take k)) = x.micro + sumP (x.legs.take k) := fun k => by
    have := place_at (x.legs.take k) (x.legs.drop k) (o := x.micro) (n := x.start) (by rw [List.take_append_drop]; exact hsec)
    rwa [List.take_append_drop] at this
  have hpk := fun t ht => Place_ok x t hn40 hlg hst hmi ht
  obtain ⟨b1, b2⟩ := hst
  obtain ⟨b3, b4⟩ := hmi
  obtain ⟨RR, hRR⟩ : ∃ z, stoodZ x.legs x.micro pos = z := ⟨_, rfl⟩
  rw [hRR]
  refine OKat.of_body (rs := [4]) Try.func108 rfl (by decide +kernel) rfl (by simp [Try.ntmps108]) ?_
  simp only [Try.ntmps108]
  repeat' first
    | apply jA | apply jB | apply jC | apply jD | apply jE | apply jF | apply jG | apply jH | apply jI
    | ((first | (apply jK cx_ok; decide) | (apply jN; rfl; decide) | apply jR); (simp (disch := omega) only [push_cast, simprocAttr, natNe, zI, zG, zJ, zM, Bool.true_and, zO, beq_self_eq_true, zP, Bool.not_true, zW, zC] <;> rfl); all_goals try ((with_reducible intro hI); try first | (cases hI; done) | (simp only [INTS, zL] at hI; try first | (exfalso; omega) | (have hT : True := hI; clear hT hI))))
    | ((first | apply jf | apply jg); (iterate 2 (try (simp (disch := omega) only [push_cast, simprocAttr, natNe, zI, zG, zJ, zM, Bool.true_and, zO, beq_self_eq_true, zP, Bool.not_true, zW, zC] <;> rfl))))

  refine AW.loop (fun n s => ∃ (k : Nat) (o T P : Int) (rest : List Leg), n = rest.length ∧ (x.legs.drop k = rest) ∧ (o + stoodZ rest P pos = RR) ∧ (T = x.start + sumT (x.legs.take k) ∧ P = x.micro + sumP (x.legs.take k)) ∧ (0 ≤ o ∧ o ≤ 36000 * (k : Int)) ∧ (0 ≤ T ∧ T ≤ 1073741823 + 36000 * (k : Int)) ∧ (0 ≤ P ∧ P ≤ 43200000000 + 39600000000 * (k : Int)) ∧ (k ≤ x.legs.length) ∧ 1 ≤ s.nx ∧ s.tm 1 = ai pos ∧ s.tm 2 = .ptr 0 0 0 1 ∧ s.tm 5 = ai o ∧ s.tm 6 = ai T ∧ s.tm 7 = ai k ∧ Pg.rowAt s.H (0) = some ({ k := 3, es := [eRun x], ty := 100 })) (x.legs.length) ⟨0, 0, x.start, x.micro, x.legs, rfl, rfl, (by omega), ⟨(by simp [sumT]), (by simp [sumP])⟩, ⟨Int.le_refl _, (by omega)⟩, ⟨b1, (by omega)⟩, ⟨b3, (by omega)⟩, (Nat.zero_le _), ?_, ?_, ?_, ?_, ?_, ?_, ?_⟩ ?_
  iterate 7 (first | (simp (disch := omega) only [push_cast, simprocAttr, natNe, zI, zG, zJ, zM, Bool.true_and, zO, beq_self_eq_true, zP, Bool.not_true, zW, zC] <;> first | rfl | omega) | omega)
  rintro n s ⟨k, o, T, P, rest, hn, hp0, hp1, hp2, hp3, hp4, hp5, hp6, hnl, hS⟩
  have hZ : (0 : Nat) ≠ s.nx ∧ s.nx ≠ (0 : Nat) := by omega
  rcases rest with _ | ⟨y, rest⟩
  · have hk := drop_nil hp0
    simp only [stoodZ, Int.add_zero] at hp1
    subst hp1
    repeat' first
      | apply jA | apply jB | apply jC | apply jD | apply jE | apply jF | apply jG | apply jH | apply jI
      | ((first | (apply jK cx_ok; decide) | (apply jN; rfl; decide) | apply jR); (simp (disch := omega) only [push_cast, simprocAttr, hS, hZ, hk, natNe, zI, zG, zJ, zM, Bool.true_and, zO, beq_self_eq_true, zP, Bool.not_true, zW, zC] <;> rfl); all_goals try ((with_reducible intro hI); try first | (cases hI; done) | (simp only [INTS, zL] at hI; try first | (exfalso; omega) | (have hT : True := hI; clear hT hI))))
      | ((first | apply jf | apply jg); (iterate 2 (try (simp (disch := omega) only [push_cast, simprocAttr, hS, hZ, hk, natNe, zI, zG, zJ, zM, Bool.true_and, zO, beq_self_eq_true, zP, Bool.not_true, zW, zC] <;> rfl))))

    all_goals (show _ = _; rfl)
  · obtain ⟨hk, hg, hd', hl', hm, hx9⟩ := drop_cons hp0 eLeg []
    have hkl := len_le hp0
    obtain ⟨q1, q2, q3, q4, q5, q6⟩ := leg_bd (hlg y hm)
    have hsn := take_snoc hp0
    obtain ⟨u1, u2⟩ := hp2
    have hT2 : T + y.secs = x.start + sumT (x.legs.take (k + 1)) := by rw [hsn, sumT_app]; simp only [sumT]; omega
    have hP2 : P + y.secs * y.rate = x.micro + sumP (x.legs.take (k + 1)) := by rw [hsn, sumP_app]; simp only [sumP]; omega
    have hk40 : (k : Int) ≤ 40 := by omega
    have c71 := hpk T (by omega)
    rw [show placeF x.legs x.micro x.start T = P by rw [u1, u2]; exact hpl k] at c71
    unfold stoodZ at hp1
    clear hpk hpl hsn
    by_cases hy0 : y.rate = 0
    · have hyT : (y.rate = 0) = True := eq_true hy0
      have hyM : y.secs * y.rate = 0 := by rw [hy0]; exact Int.mul_zero _
      by_cases hpp : P / 1000000 = pos
      · have hpT : (P / 1000000 = pos) = True := eq_true hpp
        rw [if_pos ⟨hy0, hpp⟩] at hp1
        repeat' first
          | apply jA | apply jB | apply jC | apply jD | apply jE | apply jF | apply jG | apply jH | apply jI
          | ((first | (apply jK cx_ok; decide) | (apply jN; rfl; decide) | apply jR); (simp (disch := omega) only [push_cast, simprocAttr, hS, hZ, hk, hg, hx9, hyT, hpT, natNe, zI, zG, zJ, zM, Bool.true_and, zO, beq_self_eq_true, zP, Bool.not_true, zW, zC] <;> rfl); all_goals try ((with_reducible intro hI); try first | (cases hI; done) | (simp only [INTS, zL] at hI; try first | (exfalso; omega) | (have hT : True := hI; clear hT hI))))
          | ((apply jV cx_ok; decide); (iterate 2 (simp (disch := omega) only [push_cast, simprocAttr, hS, hZ, hk, hg, hx9, hyT, hpT, natNe, zI, zG, zJ, zM, Bool.true_and, zO, beq_self_eq_true, zP, Bool.not_true, zW, zC] <;> rfl)); (with_reducible first | exact c71); try first | rfl | (simp (disch := omega) only [push_cast, simprocAttr, hS, hZ, hk, hg, hx9, hyT, hpT, natNe, zI, zG, zJ, zM, Bool.true_and, zO, beq_self_eq_true, zP, Bool.not_true, zW, zC] <;> rfl))
          | ((first | apply jf | apply jg); (iterate 2 (try (simp (disch := omega) only [push_cast, simprocAttr, hS, hZ, hk, hg, hx9, hyT, hpT, natNe, zI, zG, zJ, zM, Bool.true_and, zO, beq_self_eq_true, zP, Bool.not_true, zW, zC] <;> rfl))))

        all_goals (refine ⟨rest.length, ?_, k + 1, o + y.secs, T + y.secs, P + y.secs * y.rate, rest, rfl, hd', (by omega), ⟨hT2, hP2⟩, (by omega), (by omega), (by omega), (by omega), ?_, ?_, ?_, ?_, ?_, ?_, ?_⟩; ((simp only [zD] at *; omega)); all_goals first | (simp (disch := omega) only [push_cast, simprocAttr, hS, hZ, hk, hg, hx9, hyT, hpT, natNe, zI, zG, zJ, zM, Bool.true_and, zO, beq_self_eq_true, zP, Bool.not_true, zW, zC] <;> first | rfl | omega) | omega)
      · have hpF : (P / 1000000 = pos) = False := eq_false hpp
        rw [if_neg (fun h => hpp h.2)] at hp1
        repeat' first
          | apply jA | apply jB | apply jC | apply jD | apply jE | apply jF | apply jG | apply jH | apply jI
          | ((first | (apply jK cx_ok; decide) | (apply jN; rfl; decide) | apply jR); (simp (disch := omega) only [push_cast, simprocAttr, hS, hZ, hk, hg, hx9, hyT, hpF, natNe, zI, zG, zJ, zM, Bool.true_and, zO, beq_self_eq_true, zP, Bool.not_true, zW, zC] <;> rfl); all_goals try ((with_reducible intro hI); try first | (cases hI; done) | (simp only [INTS, zL] at hI; try first | (exfalso; omega) | (have hT : True := hI; clear hT hI))))
          | ((apply jV cx_ok; decide); (iterate 2 (simp (disch := omega) only [push_cast, simprocAttr, hS, hZ, hk, hg, hx9, hyT, hpF, natNe, zI, zG, zJ, zM, Bool.true_and, zO, beq_self_eq_true, zP, Bool.not_true, zW, zC] <;> rfl)); (with_reducible first | exact c71); try first | rfl | (simp (disch := omega) only [push_cast, simprocAttr, hS, hZ, hk, hg, hx9, hyT, hpF, natNe, zI, zG, zJ, zM, Bool.true_and, zO, beq_self_eq_true, zP, Bool.not_true, zW, zC] <;> rfl))
          | ((first | apply jf | apply jg); (iterate 2 (try (simp (disch := omega) only [push_cast, simprocAttr, hS, hZ, hk, hg, hx9, hyT, hpF, natNe, zI, zG, zJ, zM, Bool.true_and, zO, beq_self_eq_true, zP, Bool.not_true, zW, zC] <;> rfl))))

        all_goals (refine ⟨rest.length, ?_, k + 1, o, T + y.secs, P + y.secs * y.rate, rest, rfl, hd', (by omega), ⟨hT2, hP2⟩, (by omega), (by omega), (by omega), (by omega), ?_, ?_, ?_, ?_, ?_, ?_, ?_⟩; ((simp only [zD] at *; omega)); all_goals first | (simp (disch := omega) only [push_cast, simprocAttr, hS, hZ, hk, hg, hx9, hyT, hpF, natNe, zI, zG, zJ, zM, Bool.true_and, zO, beq_self_eq_true, zP, Bool.not_true, zW, zC] <;> first | rfl | omega) | omega)
    · have hyF : (y.rate = 0) = False := eq_false hy0
      rw [if_neg (fun h => hy0 h.1)] at hp1
      repeat' first
        | apply jA | apply jB | apply jC | apply jD | apply jE | apply jF | apply jG | apply jH | apply jI
        | ((first | (apply jK cx_ok; decide) | (apply jN; rfl; decide) | apply jR); (simp (disch := omega) only [push_cast, simprocAttr, hS, hZ, hk, hg, hx9, hyF, natNe, zI, zG, zJ, zM, Bool.true_and, zO, beq_self_eq_true, zP, Bool.not_true, zW, zC] <;> rfl); all_goals try ((with_reducible intro hI); try first | (cases hI; done) | (simp only [INTS, zL] at hI; try first | (exfalso; omega) | (have hT : True := hI; clear hT hI))))
        | ((apply jV cx_ok; decide); (iterate 2 (simp (disch := omega) only [push_cast, simprocAttr, hS, hZ, hk, hg, hx9, hyF, natNe, zI, zG, zJ, zM, Bool.true_and, zO, beq_self_eq_true, zP, Bool.not_true, zW, zC] <;> rfl)); (with_reducible first | exact c71); try first | rfl | (simp (disch := omega) only [push_cast, simprocAttr, hS, hZ, hk, hg, hx9, hyF, natNe, zI, zG, zJ, zM, Bool.true_and, zO, beq_self_eq_true, zP, Bool.not_true, zW, zC] <;> rfl))
        | ((first | apply jf | apply jg); (iterate 2 (try (simp (disch := omega) only [push_cast, simprocAttr, hS, hZ, hk, hg, hx9, hyF, natNe, zI, zG, zJ, zM, Bool.true_and, zO, beq_self_eq_true, zP, Bool.not_true, zW, zC] <;> rfl))))

      all_goals (refine ⟨rest.length, ?_, k + 1, o, T + y.secs, P + y.secs * y.rate, rest, rfl, hd', (by omega), ⟨hT2, hP2⟩, (by omega), (by omega), (by omega), (by omega), ?_, ?_, ?_, ?_, ?_, ?_, ?_⟩; ((simp only [zD] at *; omega)); all_goals first | (simp (disch := omega) only [push_cast, simprocAttr, hS, hZ, hk, hg, hx9, hyF, natNe, zI, zG, zJ, zM, Bool.true_and, zO, beq_self_eq_true, zP, Bool.not_true, zW, zC] <;> first | rfl | omega) | omega)
end Go.Proofs.Ks
