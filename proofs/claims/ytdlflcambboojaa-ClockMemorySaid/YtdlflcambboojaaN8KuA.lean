/-
  Contracts of functions, proved by going through their code. No conditions.
-/
import Derived.Test.YtdlflcambboojaaVaa
import Derived.Test.YtdlflcambboojaaVbe
import Derived.Test.YtdlflcambboojaaN8PkZl
set_option linter.unusedVariables false
set_option linter.unusedSimpArgs false
set_option maxHeartbeats 8000000
set_option maxRecDepth 10000
namespace Go.Proofs.Ks
open Go Go.Pg Go.Proofs
theorem SameLinks_same (a : List Lk) (ha : a.length ≤ 1099511627776) : OKv cx 42 [lLink a, lLink a] (ab true) := by
  refine OKat.of_body (rs := [4]) Try.func42 rfl (by decide +kernel) rfl (by simp [Try.ntmps42]) ?_
  simp only [Try.ntmps42]
  repeat' first
    | apply jA | apply jB | apply jC | apply jD | apply jE | apply jF | apply jG | apply jH | apply jI | apply jJ
    | refine W.draw cx_mixed (by decide +kernel) ?_
    | ((first | (apply jK cx_ok; decide) | (apply jL cx_ok; decide; decide) | apply jR); (simp (disch := omega) only [push_cast, simprocAttr] <;> rfl); all_goals try ((with_reducible intro hI); try first | (cases hI; done) | (simp only [INTS, zL] at hI; try first | (exfalso; omega) | (have hT : True := hI; clear hT hI))))
    | ((first | apply jf | apply jg); (iterate 2 (try (simp (disch := omega) only [push_cast, simprocAttr] <;> rfl))))

  refine AW.loop (fun n s => ∃ (k : Nat) (rest : List Lk), n = rest.length ∧ (a.drop k = rest) ∧ s.tm 0 = lLink a ∧ s.tm 1 = lLink a ∧ s.tm 5 = ai k) (a.length) ⟨0, a, rfl, rfl, ?_, ?_, ?_⟩ ?_
  iterate 3 (first | (simp (disch := omega) only [push_cast, simprocAttr] <;> first | rfl | omega) | omega)
  rintro n s ⟨k, rest, hn, hp0, hS⟩
  rcases rest with _ | ⟨x, rest⟩
  · have hk := drop_nil hp0
    repeat' first
      | apply jA | apply jB | apply jC | apply jD | apply jE | apply jF | apply jG | apply jH | apply jI | apply jJ
      | refine W.draw cx_mixed (by decide +kernel) ?_
      | ((first | (apply jK cx_ok; decide) | (apply jL cx_ok; decide; decide) | apply jR); (simp (disch := omega) only [push_cast, simprocAttr, hS, hk] <;> rfl); all_goals try ((with_reducible intro hI); try first | (cases hI; done) | (simp only [INTS, zL] at hI; try first | (exfalso; omega) | (have hT : True := hI; clear hT hI))))
      | ((first | apply jf | apply jg); (iterate 2 (try (simp (disch := omega) only [push_cast, simprocAttr, hS, hk] <;> rfl))))

    all_goals (show _ = _; rfl)
  · obtain ⟨hk, hg, hd', hl', hm', hx⟩ := drop_cons hp0 eLink []
    repeat' first
      | apply jA | apply jB | apply jC | apply jD | apply jE | apply jF | apply jG | apply jH | apply jI | apply jJ
      | refine W.draw cx_mixed (by decide +kernel) ?_
      | ((first | (apply jK cx_ok; decide) | (apply jL cx_ok; decide; decide) | apply jR); (simp (disch := omega) only [push_cast, simprocAttr, hS, hk, hg, hx, zP, zO, Bool.true_and, beq_self_eq_true, Bool.not_true, zM] <;> rfl); all_goals try ((with_reducible intro hI); try first | (cases hI; done) | (simp only [INTS, zL] at hI; try first | (exfalso; omega) | (have hT : True := hI; clear hT hI))))
      | ((first | apply jf | apply jg); (iterate 2 (try (simp (disch := omega) only [push_cast, simprocAttr, hS, hk, hg, hx, zP, zO, Bool.true_and, beq_self_eq_true, Bool.not_true, zM] <;> rfl))))

    all_goals (refine ⟨rest.length, ?_, k + 1, rest, rfl, hd', ?_, ?_, ?_⟩; ((simp only [zD] at *; omega)); all_goals first | (simp (disch := omega) only [push_cast, simprocAttr, hS, hk, hg, hx] <;> first | rfl | omega) | omega)
theorem E53 : EqFact Try.prog 53 := ⟨by kernel_rfl, by kernel_rfl, by kernel_rfl⟩
theorem E60 : EqFact Try.prog 60 := ⟨by kernel_rfl, by kernel_rfl, by kernel_rfl⟩
theorem E68 : EqFact Try.prog 68 := ⟨by kernel_rfl, by kernel_rfl, by kernel_rfl⟩
theorem SameRec_same (a : Rec) (h1 : a.s.stops.length ≤ 1099511627776) (h2 : a.strikes.length ≤ 1099511627776) (h3 : a.sights.length ≤ 1099511627776) : OKv cx 41 [.agg (eRec a), .agg (eRec a)] (ab true) := by
  refine OKat.of_body (rs := [4]) Try.func41 rfl (by decide +kernel) rfl (by simp [Try.ntmps41]) ?_
  simp only [Try.ntmps41]
  repeat' first
    | apply jA | apply jB | apply jC | apply jD | apply jE | apply jF | apply jG | apply jH | apply jI | apply jJ
    | refine W.draw cx_mixed (by decide +kernel) ?_
    | ((first | (apply jK cx_ok; decide) | (apply jL cx_ok; decide; decide) | apply jM cx_ok | (apply jN; rfl; decide) | (apply jO; rfl; decide; decide) | apply jR); (simp (disch := omega) only [push_cast, simprocAttr, natNe, zI, zG, zJ, zP, zO, Bool.true_and, beq_self_eq_true, Bool.not_true, zM] <;> rfl); all_goals try ((with_reducible intro hI); try first | (cases hI; done) | (simp only [INTS, zL] at hI; try first | (exfalso; omega) | (have hT : True := hI; clear hT hI))))
    | ((first | apply jf | apply jg); (iterate 2 (try (simp (disch := omega) only [push_cast, simprocAttr, natNe, zI, zG, zJ, zP, zO, Bool.true_and, beq_self_eq_true, Bool.not_true, zM] <;> rfl))))

  refine AW.loop (fun n s => ∃ (k : Nat) (rest : List Stop), n = rest.length ∧ (a.s.stops.drop k = rest) ∧ 4 ≤ s.nx ∧ s.tm 2 = .ptr 0 0 0 1 ∧ s.tm 3 = .ptr 1 0 0 1 ∧ s.tm 5 = .ptr 2 0 0 1 ∧ s.tm 6 = .ptr 3 0 0 1 ∧ s.tm 7 = ai k ∧ Pg.rowAt s.H (0) = some ({ k := 14, es := [eRec a], ty := 30 }) ∧ Pg.rowAt s.H (1) = some ({ k := 14, es := [eRec a], ty := 30 }) ∧ Pg.rowAt s.H (2) = some ({ k := 12, es := [eSession a.s], ty := 26 }) ∧ Pg.rowAt s.H (3) = some ({ k := 12, es := [eSession a.s], ty := 26 })) (a.s.stops.length) ⟨0, a.s.stops, rfl, rfl, ?_, ?_, ?_, ?_, ?_, ?_, ?_, ?_, ?_, ?_⟩ ?_
  iterate 10 (first | (simp (disch := omega) only [push_cast, simprocAttr, natNe, zI, zG, zJ] <;> first | rfl | omega) | omega)
  rintro n0 s0 ⟨k0, rest0, hn0, hp00, hnl0, hS0⟩
  have hZ0 : (0 : Nat) ≠ s0.nx ∧ s0.nx ≠ (0 : Nat) ∧ (1 : Nat) ≠ s0.nx ∧ s0.nx ≠ (1 : Nat) ∧ (2 : Nat) ≠ s0.nx ∧ s0.nx ≠ (2 : Nat) ∧ (3 : Nat) ≠ s0.nx ∧ s0.nx ≠ (3 : Nat) := by omega
  rcases rest0 with _ | ⟨x, rest0⟩
  rotate_left
  · obtain ⟨hk, hg, hd', hl', hm', hx⟩ := drop_cons hp00 eStop []
    repeat' first
      | ((first | (apply W.neN cx_ok; decide) | (apply D.neN cx_ok; decide; decide)); rfl; rfl; (first | exact E53 | exact E60 | exact E68); (iterate 2 (simp (disch := omega) only [push_cast, simprocAttr, hS0, hZ0, hk, hg, hx, natNe, zI, zG, zJ, zP, zO, Bool.true_and, beq_self_eq_true, Bool.not_true, zM] <;> rfl)); (simp (disch := omega) only [push_cast, simprocAttr, hS0, hZ0, hk, hg, hx, natNe, zI, zG, zJ, zP, zO, Bool.true_and, beq_self_eq_true, Bool.not_true, zM, cellsEqN, cellEqN] <;> rfl))
      | apply jA | apply jB | apply jC | apply jD | apply jE | apply jF | apply jG | apply jH | apply jI | apply jJ
      | refine W.draw cx_mixed (by decide +kernel) ?_
      | ((first | (apply jK cx_ok; decide) | (apply jL cx_ok; decide; decide) | apply jM cx_ok | (apply jN; rfl; decide) | (apply jO; rfl; decide; decide) | apply jR); (simp (disch := omega) only [push_cast, simprocAttr, hS0, hZ0, hk, hg, hx, natNe, zI, zG, zJ, zP, zO, Bool.true_and, beq_self_eq_true, Bool.not_true, zM] <;> rfl); all_goals try ((with_reducible intro hI); try first | (cases hI; done) | (simp only [INTS, zL] at hI; try first | (exfalso; omega) | (have hT : True := hI; clear hT hI))))
      | ((first | apply jf | apply jg); (iterate 2 (try (simp (disch := omega) only [push_cast, simprocAttr, hS0, hZ0, hk, hg, hx, natNe, zI, zG, zJ, zP, zO, Bool.true_and, beq_self_eq_true, Bool.not_true, zM] <;> rfl))))

    all_goals first
      | (exfalso; omega)
      | (refine ⟨rest0.length, ?_, k0 + 1, rest0, rfl, hd', ?_, ?_, ?_, ?_, ?_, ?_, ?_, ?_, ?_, ?_⟩; ((simp only [zD] at *; omega)); all_goals first | (simp (disch := omega) only [push_cast, simprocAttr, hS0, hZ0, natNe, zI, zG, zJ, hk, hg, hx] <;> first | rfl | omega) | omega)
  have hk0 := drop_nil hp00
  repeat' first
    | apply jA | apply jB | apply jC | apply jD | apply jE | apply jF | apply jG | apply jH | apply jI | apply jJ
    | refine W.draw cx_mixed (by decide +kernel) ?_
    | ((first | (apply jK cx_ok; decide) | (apply jL cx_ok; decide; decide) | apply jM cx_ok | (apply jN; rfl; decide) | (apply jO; rfl; decide; decide) | apply jR); (simp (disch := omega) only [push_cast, simprocAttr, hS0, hZ0, hk0, natNe, zI, zG, zJ] <;> rfl); all_goals try ((with_reducible intro hI); try first | (cases hI; done) | (simp only [INTS, zL] at hI; try first | (exfalso; omega) | (have hT : True := hI; clear hT hI))))
    | ((first | apply jf | apply jg); (iterate 2 (try (simp (disch := omega) only [push_cast, simprocAttr, hS0, hZ0, hk0, natNe, zI, zG, zJ] <;> rfl))))

  refine AW.loop (fun n s => ∃ (k : Nat) (rest : List Strike), n = rest.length ∧ (a.strikes.drop k = rest) ∧ 4 ≤ s.nx ∧ s.tm 2 = .ptr 0 0 0 1 ∧ s.tm 3 = .ptr 1 0 0 1 ∧ s.tm 8 = ai k ∧ Pg.rowAt s.H (0) = some ({ k := 14, es := [eRec a], ty := 30 }) ∧ Pg.rowAt s.H (1) = some ({ k := 14, es := [eRec a], ty := 30 }) ∧ Pg.rowAt s.H (2) = some ({ k := 12, es := [eSession a.s], ty := 26 }) ∧ Pg.rowAt s.H (3) = some ({ k := 12, es := [eSession a.s], ty := 26 })) (a.strikes.length) ⟨0, a.strikes, rfl, rfl, ?_, ?_, ?_, ?_, ?_, ?_, ?_, ?_⟩ ?_
  iterate 8 (first | (simp (disch := omega) only [push_cast, simprocAttr, natNe, zI, zG, zJ, hS0, hZ0, hk0] <;> first | rfl | omega) | omega)
  rintro n1 s1 ⟨k1, rest1, hn1, hp01, hnl1, hS1⟩
  have hZ1 : (0 : Nat) ≠ s1.nx ∧ s1.nx ≠ (0 : Nat) ∧ (1 : Nat) ≠ s1.nx ∧ s1.nx ≠ (1 : Nat) ∧ (2 : Nat) ≠ s1.nx ∧ s1.nx ≠ (2 : Nat) ∧ (3 : Nat) ≠ s1.nx ∧ s1.nx ≠ (3 : Nat) := by omega
  rcases rest1 with _ | ⟨x, rest1⟩
  rotate_left
  · obtain ⟨hk, hg, hd', hl', hm', hx⟩ := drop_cons hp01 eStrike []
    repeat' first
      | ((first | (apply W.neN cx_ok; decide) | (apply D.neN cx_ok; decide; decide)); rfl; rfl; (first | exact E53 | exact E60 | exact E68); (iterate 2 (simp (disch := omega) only [push_cast, simprocAttr, hS1, hZ1, hk, hg, hx, natNe, zI, zG, zJ, zP, zO, Bool.true_and, beq_self_eq_true, Bool.not_true, zM] <;> rfl)); (simp (disch := omega) only [push_cast, simprocAttr, hS1, hZ1, hk, hg, hx, natNe, zI, zG, zJ, zP, zO, Bool.true_and, beq_self_eq_true, Bool.not_true, zM, cellsEqN, cellEqN] <;> rfl))
      | apply jA | apply jB | apply jC | apply jD | apply jE | apply jF | apply jG | apply jH | apply jI | apply jJ
      | refine W.draw cx_mixed (by decide +kernel) ?_
      | ((first | (apply jK cx_ok; decide) | (apply jL cx_ok; decide; decide) | apply jM cx_ok | (apply jN; rfl; decide) | (apply jO; rfl; decide; decide) | apply jR); (simp (disch := omega) only [push_cast, simprocAttr, hS1, hZ1, hk, hg, hx, natNe, zI, zG, zJ, zP, zO, Bool.true_and, beq_self_eq_true, Bool.not_true, zM] <;> rfl); all_goals try ((with_reducible intro hI); try first | (cases hI; done) | (simp only [INTS, zL] at hI; try first | (exfalso; omega) | (have hT : True := hI; clear hT hI))))
      | ((first | apply jf | apply jg); (iterate 2 (try (simp (disch := omega) only [push_cast, simprocAttr, hS1, hZ1, hk, hg, hx, natNe, zI, zG, zJ, zP, zO, Bool.true_and, beq_self_eq_true, Bool.not_true, zM] <;> rfl))))

    all_goals first
      | (exfalso; omega)
      | (refine ⟨rest1.length, ?_, k1 + 1, rest1, rfl, hd', ?_, ?_, ?_, ?_, ?_, ?_, ?_, ?_⟩; ((simp only [zD] at *; omega)); all_goals first | (simp (disch := omega) only [push_cast, simprocAttr, hS1, hZ1, natNe, zI, zG, zJ, hk, hg, hx] <;> first | rfl | omega) | omega)
  have hk1 := drop_nil hp01
  repeat' first
    | apply jA | apply jB | apply jC | apply jD | apply jE | apply jF | apply jG | apply jH | apply jI | apply jJ
    | refine W.draw cx_mixed (by decide +kernel) ?_
    | ((first | (apply jK cx_ok; decide) | (apply jL cx_ok; decide; decide) | apply jM cx_ok | (apply jN; rfl; decide) | (apply jO; rfl; decide; decide) | apply jR); (simp (disch := omega) only [push_cast, simprocAttr, hS1, hZ1, hk1, natNe, zI, zG, zJ] <;> rfl); all_goals try ((with_reducible intro hI); try first | (cases hI; done) | (simp only [INTS, zL] at hI; try first | (exfalso; omega) | (have hT : True := hI; clear hT hI))))
    | ((first | apply jf | apply jg); (iterate 2 (try (simp (disch := omega) only [push_cast, simprocAttr, hS1, hZ1, hk1, natNe, zI, zG, zJ] <;> rfl))))

  refine AW.loop (fun n s => ∃ (k : Nat) (rest : List Sight), n = rest.length ∧ (a.sights.drop k = rest) ∧ 4 ≤ s.nx ∧ s.tm 2 = .ptr 0 0 0 1 ∧ s.tm 3 = .ptr 1 0 0 1 ∧ s.tm 9 = ai k ∧ Pg.rowAt s.H (0) = some ({ k := 14, es := [eRec a], ty := 30 }) ∧ Pg.rowAt s.H (1) = some ({ k := 14, es := [eRec a], ty := 30 }) ∧ Pg.rowAt s.H (2) = some ({ k := 12, es := [eSession a.s], ty := 26 }) ∧ Pg.rowAt s.H (3) = some ({ k := 12, es := [eSession a.s], ty := 26 })) (a.sights.length) ⟨0, a.sights, rfl, rfl, ?_, ?_, ?_, ?_, ?_, ?_, ?_, ?_⟩ ?_
  iterate 8 (first | (simp (disch := omega) only [push_cast, simprocAttr, natNe, zI, zG, zJ, hS1, hZ1, hk1] <;> first | rfl | omega) | omega)
  rintro n2 s2 ⟨k2, rest2, hn2, hp02, hnl2, hS2⟩
  have hZ2 : (0 : Nat) ≠ s2.nx ∧ s2.nx ≠ (0 : Nat) ∧ (1 : Nat) ≠ s2.nx ∧ s2.nx ≠ (1 : Nat) ∧ (2 : Nat) ≠ s2.nx ∧ s2.nx ≠ (2 : Nat) ∧ (3 : Nat) ≠ s2.nx ∧ s2.nx ≠ (3 : Nat) := by omega
  rcases rest2 with _ | ⟨x, rest2⟩
  rotate_left
  · obtain ⟨hk, hg, hd', hl', hm', hx⟩ := drop_cons hp02 eSight []
    repeat' first
      | ((first | (apply W.neN cx_ok; decide) | (apply D.neN cx_ok; decide; decide)); rfl; rfl; (first | exact E53 | exact E60 | exact E68); (iterate 2 (simp (disch := omega) only [push_cast, simprocAttr, hS2, hZ2, hk, hg, hx, natNe, zI, zG, zJ, zP, zO, Bool.true_and, beq_self_eq_true, Bool.not_true, zM] <;> rfl)); (simp (disch := omega) only [push_cast, simprocAttr, hS2, hZ2, hk, hg, hx, natNe, zI, zG, zJ, zP, zO, Bool.true_and, beq_self_eq_true, Bool.not_true, zM, cellsEqN, cellEqN] <;> rfl))
      | apply jA | apply jB | apply jC | apply jD | apply jE | apply jF | apply jG | apply jH | apply jI | apply jJ
      | refine W.draw cx_mixed (by decide +kernel) ?_
      | ((first | (apply jK cx_ok; decide) | (apply jL cx_ok; decide; decide) | apply jM cx_ok | (apply jN; rfl; decide) | (apply jO; rfl; decide; decide) | apply jR); (simp (disch := omega) only [push_cast, simprocAttr, hS2, hZ2, hk, hg, hx, natNe, zI, zG, zJ, zP, zO, Bool.true_and, beq_self_eq_true, Bool.not_true, zM] <;> rfl); all_goals try ((with_reducible intro hI); try first | (cases hI; done) | (simp only [INTS, zL] at hI; try first | (exfalso; omega) | (have hT : True := hI; clear hT hI))))
      | ((first | apply jf | apply jg); (iterate 2 (try (simp (disch := omega) only [push_cast, simprocAttr, hS2, hZ2, hk, hg, hx, natNe, zI, zG, zJ, zP, zO, Bool.true_and, beq_self_eq_true, Bool.not_true, zM] <;> rfl))))

    all_goals first
      | (exfalso; omega)
      | (refine ⟨rest2.length, ?_, k2 + 1, rest2, rfl, hd', ?_, ?_, ?_, ?_, ?_, ?_, ?_, ?_⟩; ((simp only [zD] at *; omega)); all_goals first | (simp (disch := omega) only [push_cast, simprocAttr, hS2, hZ2, natNe, zI, zG, zJ, hk, hg, hx] <;> first | rfl | omega) | omega)
  have hk2 := drop_nil hp02
  repeat' first
    | apply jA | apply jB | apply jC | apply jD | apply jE | apply jF | apply jG | apply jH | apply jI | apply jJ
    | refine W.draw cx_mixed (by decide +kernel) ?_
    | ((first | (apply jK cx_ok; decide) | (apply jL cx_ok; decide; decide) | apply jM cx_ok | (apply jN; rfl; decide) | (apply jO; rfl; decide; decide) | apply jR); (simp (disch := omega) only [push_cast, simprocAttr, hS2, hZ2, hk2, natNe, zI, zG, zJ] <;> rfl); all_goals try ((with_reducible intro hI); try first | (cases hI; done) | (simp only [INTS, zL] at hI; try first | (exfalso; omega) | (have hT : True := hI; clear hT hI))))
    | ((first | apply jf | apply jg); (iterate 2 (try (simp (disch := omega) only [push_cast, simprocAttr, hS2, hZ2, hk2, natNe, zI, zG, zJ] <;> rfl))))

  all_goals first
    | (exfalso; omega)
    | (show _ = _; rfl)
theorem in_ok (l : List Int) (NN : Int) (hl : l.length ≤ 1099511627776) : OKv cx 96 [lInt l, ai NN] (ab (l.contains NN)) := by
  obtain ⟨B, hB⟩ : ∃ z, l.contains NN = z := ⟨_, rfl⟩
  rw [hB]
  refine OKat.of_body (rs := [4]) Try.func96 rfl (by decide +kernel) rfl (by simp [Try.ntmps96]) ?_
  simp only [Try.ntmps96]
  repeat' first
    | apply jA | apply jB | apply jC | apply jD | apply jE | apply jF | apply jG | apply jH | apply jI
    | ((first | (apply jK cx_ok; decide) | apply jR); (simp (disch := omega) only [push_cast, simprocAttr] <;> rfl); all_goals try ((with_reducible intro hI); try first | (cases hI; done) | (simp only [INTS, zL] at hI; try first | (exfalso; omega) | (have hT : True := hI; clear hT hI))))
    | ((first | apply jf | apply jg); (iterate 2 (try (simp (disch := omega) only [push_cast, simprocAttr] <;> rfl))))

  refine AW.loop (fun n s => ∃ (k : Nat) (rest : List Int), n = rest.length ∧ (l.drop k = rest) ∧ (rest.contains NN = B) ∧ s.tm 0 = lInt l ∧ s.tm 1 = ai NN ∧ s.tm 5 = ai k) (l.length) ⟨0, l, rfl, rfl, hB, ?_, ?_, ?_⟩ ?_
  iterate 3 (first | (simp (disch := omega) only [push_cast, simprocAttr] <;> first | rfl | omega) | omega)
  rintro n s ⟨k, rest, hn, hp0, hp1, hS⟩
  rcases rest with _ | ⟨x, rest⟩
  · have hk := drop_nil hp0
    have hp1' : false = B := hp1
    subst hp1'
    repeat' first
      | apply jA | apply jB | apply jC | apply jD | apply jE | apply jF | apply jG | apply jH | apply jI
      | ((first | (apply jK cx_ok; decide) | apply jR); (simp (disch := omega) only [push_cast, simprocAttr, hS, hk] <;> rfl); all_goals try ((with_reducible intro hI); try first | (cases hI; done) | (simp only [INTS, zL] at hI; try first | (exfalso; omega) | (have hT : True := hI; clear hT hI))))
      | ((first | apply jf | apply jg); (iterate 2 (try (simp (disch := omega) only [push_cast, simprocAttr, hS, hk] <;> rfl))))

    all_goals (show _ = _; rfl)
  · obtain ⟨hk, hg, hd', hl', hm', hx⟩ := drop_cons hp0 eInt []
    rw [List.contains_cons] at hp1
    by_cases hq : x = NN
    · have hqT : (x = NN) = True := eq_true hq
      have hp1' : true = B := by rw [← hp1, hq]; simp
      subst hp1'
      repeat' first
        | apply jA | apply jB | apply jC | apply jD | apply jE | apply jF | apply jG | apply jH | apply jI
        | ((first | (apply jK cx_ok; decide) | apply jR); (simp (disch := omega) only [push_cast, simprocAttr, hS, hk, hg, hx, hqT] <;> rfl); all_goals try ((with_reducible intro hI); try first | (cases hI; done) | (simp only [INTS, zL] at hI; try first | (exfalso; omega) | (have hT : True := hI; clear hT hI))))
        | ((first | apply jf | apply jg); (iterate 2 (try (simp (disch := omega) only [push_cast, simprocAttr, hS, hk, hg, hx, hqT] <;> rfl))))

      all_goals (show _ = _; rfl)
    · have hqF : (x = NN) = False := eq_false hq
      have hp1' : rest.contains NN = B := by rw [← hp1, beq_false_of_ne (fun e => hq e.symm), Bool.false_or]
      repeat' first
        | apply jA | apply jB | apply jC | apply jD | apply jE | apply jF | apply jG | apply jH | apply jI
        | ((first | (apply jK cx_ok; decide) | apply jR); (simp (disch := omega) only [push_cast, simprocAttr, hS, hk, hg, hx, hqF] <;> rfl); all_goals try ((with_reducible intro hI); try first | (cases hI; done) | (simp only [INTS, zL] at hI; try first | (exfalso; omega) | (have hT : True := hI; clear hT hI))))
        | ((first | apply jf | apply jg); (iterate 2 (try (simp (disch := omega) only [push_cast, simprocAttr, hS, hk, hg, hx, hqF] <;> rfl))))

      all_goals (refine ⟨rest.length, ?_, k + 1, rest, rfl, hd', hp1', ?_, ?_, ?_⟩; ((simp only [zD] at *; omega)); all_goals first | (simp (disch := omega) only [push_cast, simprocAttr, hS, hk, hg, hx, hqF] <;> first | rfl | omega) | omega)
end Go.Proofs.Ks
