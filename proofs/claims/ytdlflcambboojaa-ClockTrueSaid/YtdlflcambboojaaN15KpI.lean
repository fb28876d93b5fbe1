/-
  Contracts of functions, proved by going through their code. No conditions.
-/
import Derived.Test.YtdlflcambboojaaRaa
import Derived.Test.YtdlflcambboojaaN15KoB
import Derived.Test.YtdlflcambboojaaN15KpH
set_option linter.unusedVariables false
set_option linter.unusedSimpArgs false
set_option maxHeartbeats 8000000
set_option maxRecDepth 10000
namespace Go.Proofs.Ks
open Go Go.Pg Go.Proofs
def SB (id t : Int) (s : Sight) : Bool := decide (s.strike = id → s.seen.lo ≤ t ∧ t ≤ s.seen.hi)
def QB (r : Rec) (x : Run) (ts : List Int) (i : Nat) : Bool :=
  decide ((needleP x (ts.getD i 0)).2 = 0) && (decide ((r.strikes.getD i default).pos.lo ≤ (needleP x (ts.getD i 0)).1) && (decide ((needleP x (ts.getD i 0)).1 ≤ (r.strikes.getD i default).pos.hi) && ((decide (i = 0) || decide (ts.getD (i - 1) 0 ≤ ts.getD i 0)) && r.sights.all (SB (r.strikes.getD i default).id (ts.getD i 0)))))
theorem true_go (r : Rec) (x : Run) (ts : List Int) (hc : checkE r = 0) (hp : playsE r.s x = 0) (hl : ts.length = r.strikes.length) (h60 : x.legs.length ≤ 60) (h20 : r.strikes.length ≤ 20) (hs20 : r.sights.length ≤ 20) :
    OKv cx 72 [.agg (eRec r), .agg (eRun x), lInt ts] (ab ((List.range ts.length).all (QB r x ts))) := by
  have c33 := Check_ok r
  have c67 := Plays_ok r.s x (by omega)
  rw [hc] at c33
  rw [hp] at c67
  have hnd := fun t : Int => Needle_ok x t (by omega)
  obtain ⟨RES, hRES⟩ : ∃ b, (List.range ts.length).all (QB r x ts) = b := ⟨_, rfl⟩
  have hRT : (∀ j, j < ts.length → QB r x ts j = true) → RES = true := fun h => by
    rw [← hRES, List.all_eq_true]
    exact fun j hj => h j (List.mem_range.1 hj)
  have hRF : ∀ j, j < ts.length → QB r x ts j = false → RES = false := fun j hj h => by
    rw [← hRES, List.all_eq_false]
    exact ⟨j, List.mem_range.2 hj, by rw [h]; decide⟩
  rw [hRES]
  clear hRES
  have hlI : (ts.length : Int) = (r.strikes.length : Int) := by omega
  have hlT : ((ts.length : Int) = (r.strikes.length : Int)) = True := eq_true hlI
  refine OKat.of_body (rs := [6]) Try.func72 rfl (by decide +kernel) rfl (by simp [Try.ntmps72]) ?_
  simp only [Try.ntmps72]
  repeat' first
    | apply jA | apply jB | apply jC | apply jD | apply jE | apply jF | apply jG | apply jH | apply jI | apply jJ
    | refine W.draw cx_mixed (by decide +kernel) ?_
    | ((first | (apply jK cx_ok; decide) | (apply jL cx_ok; decide; decide) | apply jM cx_ok | (apply jN; rfl; decide) | (apply jO; rfl; decide; decide) | apply jR); (simp (disch := omega) only [push_cast, simprocAttr, hlT, natNe, zI, zG, zJ, zM, Bool.true_and, zO, beq_self_eq_true, zP] <;> rfl); all_goals try ((with_reducible intro hI); try first | (cases hI; done) | (simp only [INTS, zL] at hI; try first | (exfalso; omega) | (have hT : True := hI; clear hT hI))))
    | ((first | (apply jP; rfl; decide) | (apply jQ; rfl; decide; decide)); (simp (disch := omega) only [push_cast, simprocAttr, hlT, natNe, zI, zG, zJ, zM, Bool.true_and, zO, beq_self_eq_true, zP] <;> rfl))
    | ((first | (apply jV cx_ok; decide) | (apply jW cx_ok; decide; decide)); (iterate 2 (simp (disch := omega) only [push_cast, simprocAttr, hlT, natNe, zI, zG, zJ, zM, Bool.true_and, zO, beq_self_eq_true, zP] <;> rfl)); (with_reducible first | exact c33 | exact c67); try first | rfl | (simp (disch := omega) only [push_cast, simprocAttr, hlT, natNe, zI, zG, zJ, zM, Bool.true_and, zO, beq_self_eq_true, zP] <;> rfl))
    | ((first | apply jf | apply jg); (iterate 2 (try (simp (disch := omega) only [push_cast, simprocAttr, hlT, natNe, zI, zG, zJ, zM, Bool.true_and, zO, beq_self_eq_true, zP] <;> rfl))))

  refine AW.loop (fun n s => ∃ (i : Nat), n = ts.length - i ∧ (i ≤ ts.length) ∧ (∀ j, j < i → QB r x ts j = true) ∧ 2 ≤ s.nx ∧ s.tm 2 = lInt ts ∧ s.tm 3 = .ptr 0 0 0 1 ∧ s.tm 4 = .ptr 1 0 0 1 ∧ s.tm 7 = ai i ∧ Pg.rowAt s.H (0) = some ({ k := 14, es := [eRec r], ty := 30 }) ∧ Pg.rowAt s.H (1) = some ({ k := 3, es := [eRun x], ty := 100 })) (ts.length) ⟨0, rfl, (Nat.zero_le _), (fun j h => absurd h (Nat.not_lt_zero _)), ?_, ?_, ?_, ?_, ?_, ?_, ?_⟩ ?_
  iterate 7 (first | (simp (disch := omega) only [push_cast, simprocAttr, natNe, zI, zG, zJ, zM, Bool.true_and, zO, beq_self_eq_true, zP] <;> first | rfl | omega) | omega)
  rintro n1 s1 ⟨i1, hn1, hp01, hp11, hnl1, hS1⟩
  have hZ1 : (0 : Nat) ≠ s1.nx ∧ s1.nx ≠ (0 : Nat) ∧ (1 : Nat) ≠ s1.nx ∧ s1.nx ≠ (1 : Nat) := by omega
  by_cases hi : i1 < ts.length
  rotate_left
  · have hiF : ¬ (i1 : Int) < (ts.length : Int) := by omega
    have hRt := hRT fun j hj => hp11 j (by omega)
    subst hRt
    repeat' first
      | apply jA | apply jB | apply jC | apply jD | apply jE | apply jF | apply jG | apply jH | apply jI | apply jJ
      | refine W.draw cx_mixed (by decide +kernel) ?_
      | ((first | (apply jK cx_ok; decide) | (apply jL cx_ok; decide; decide) | apply jM cx_ok | (apply jN; rfl; decide) | (apply jO; rfl; decide; decide) | apply jR); (simp (disch := omega) only [push_cast, simprocAttr, hS1, hZ1, hiF, natNe, zI, zG, zJ, zM, Bool.true_and, zO, beq_self_eq_true, zP] <;> rfl); all_goals try ((with_reducible intro hI); try first | (cases hI; done) | (simp only [INTS, zL] at hI; try first | (exfalso; omega) | (have hT : True := hI; clear hT hI))))
      | ((first | (apply jP; rfl; decide) | (apply jQ; rfl; decide; decide)); (simp (disch := omega) only [push_cast, simprocAttr, hS1, hZ1, hiF, natNe, zI, zG, zJ, zM, Bool.true_and, zO, beq_self_eq_true, zP] <;> rfl))
      | ((first | apply jf | apply jg); (iterate 2 (try (simp (disch := omega) only [push_cast, simprocAttr, hS1, hZ1, hiF, natNe, zI, zG, zJ, zM, Bool.true_and, zO, beq_self_eq_true, zP] <;> rfl))))

    all_goals (show _ = _; rfl)
  have hiT : (i1 : Int) < (ts.length : Int) := by omega
  have hiS : (i1 : Int) < (r.strikes.length : Int) := by omega
  obtain ⟨t, ht⟩ : ∃ z, ts[i1]? = some z := ⟨_, List.getElem?_eq_getElem hi⟩
  obtain ⟨a, ha⟩ : ∃ z, r.strikes[i1]? = some z := ⟨_, List.getElem?_eq_getElem (by omega)⟩
  have u1 : (ts.map eInt)[i1]? = some (eInt t) := by rw [List.getElem?_map, ht]; rfl
  have u2 : (ts.map eInt).getD i1 [] = eInt t := by rw [List.getD_eq_getElem?_getD, u1]; rfl
  have v1 : (r.strikes.map eStrike)[i1]? = some (eStrike a) := by rw [List.getElem?_map, ha]; rfl
  have v2 : (r.strikes.map eStrike).getD i1 [] = eStrike a := by rw [List.getD_eq_getElem?_getD, v1]; rfl
  have c66 := hnd t
  have gt : ts.getD i1 0 = t := by rw [List.getD_eq_getElem?_getD, ht]; rfl
  have ga : r.strikes.getD i1 default = a := by rw [List.getD_eq_getElem?_getD, ha]; rfl
  obtain ⟨SA, hSA⟩ : ∃ b, r.sights.all (SB a.id t) = b := ⟨_, rfl⟩
  obtain ⟨⟨N, E⟩, hNE⟩ : ∃ z, needleP x t = z := ⟨_, rfl⟩
  have hQ : QB r x ts i1 = (decide (E = 0) && (decide (a.pos.lo ≤ N) && (decide (N ≤ a.pos.hi) && ((decide (i1 = 0) || decide (ts.getD (i1 - 1) 0 ≤ t)) && SA)))) := by
    unfold QB
    rw [gt, ga, hNE, hSA]
  rw [hNE] at c66
  dsimp only at c66
  clear hNE
  by_cases hE : E = 0
  rotate_left
  · have hEF : (E = 0) = False := eq_false hE
    have hRf := hRF i1 hi (by rw [hQ]; simp [hE])
    subst hRf
    repeat' first
      | apply jA | apply jB | apply jC | apply jD | apply jE | apply jF | apply jG | apply jH | apply jI | apply jJ
      | refine W.draw cx_mixed (by decide +kernel) ?_
      | ((first | (apply jK cx_ok; decide) | (apply jL cx_ok; decide; decide) | apply jM cx_ok | (apply jN; rfl; decide) | (apply jO; rfl; decide; decide) | apply jR); (simp (disch := omega) only [push_cast, simprocAttr, hS1, hZ1, hiT, hiS, u1, u2, v1, v2, hEF, natNe, zI, zG, zJ, zM, Bool.true_and, zO, beq_self_eq_true, zP] <;> rfl); all_goals try ((with_reducible intro hI); try first | (cases hI; done) | (simp only [INTS, zL] at hI; try first | (exfalso; omega) | (have hT : True := hI; clear hT hI))))
      | ((first | (apply jP; rfl; decide) | (apply jQ; rfl; decide; decide)); (simp (disch := omega) only [push_cast, simprocAttr, hS1, hZ1, hiT, hiS, u1, u2, v1, v2, hEF, natNe, zI, zG, zJ, zM, Bool.true_and, zO, beq_self_eq_true, zP] <;> rfl))
      | ((first | (apply jV cx_ok; decide) | (apply jW cx_ok; decide; decide)); (iterate 2 (simp (disch := omega) only [push_cast, simprocAttr, hS1, hZ1, hiT, hiS, u1, u2, v1, v2, hEF, natNe, zI, zG, zJ, zM, Bool.true_and, zO, beq_self_eq_true, zP] <;> rfl)); (with_reducible first | exact c66); try first | rfl | (simp (disch := omega) only [push_cast, simprocAttr, hS1, hZ1, hiT, hiS, u1, u2, v1, v2, hEF, natNe, zI, zG, zJ, zM, Bool.true_and, zO, beq_self_eq_true, zP] <;> rfl))
      | ((first | apply jf | apply jg); (iterate 2 (try (simp (disch := omega) only [push_cast, simprocAttr, hS1, hZ1, hiT, hiS, u1, u2, v1, v2, hEF, natNe, zI, zG, zJ, zM, Bool.true_and, zO, beq_self_eq_true, zP] <;> rfl))))

    all_goals (show _ = _; rfl)
  subst hE
  by_cases hN1 : N < a.pos.lo
  · have hN1' : ¬ a.pos.lo ≤ N := by omega
    have hRf := hRF i1 hi (by rw [hQ]; simp [hN1'])
    subst hRf
    repeat' first
      | apply jA | apply jB | apply jC | apply jD | apply jE | apply jF | apply jG | apply jH | apply jI | apply jJ
      | refine W.draw cx_mixed (by decide +kernel) ?_
      | ((first | (apply jK cx_ok; decide) | (apply jL cx_ok; decide; decide) | apply jM cx_ok | (apply jN; rfl; decide) | (apply jO; rfl; decide; decide) | apply jR); (simp (disch := omega) only [push_cast, simprocAttr, hS1, hZ1, hiT, hiS, u1, u2, v1, v2, hN1, natNe, zI, zG, zJ, zM, Bool.true_and, zO, beq_self_eq_true, zP] <;> rfl); all_goals try ((with_reducible intro hI); try first | (cases hI; done) | (simp only [INTS, zL] at hI; try first | (exfalso; omega) | (have hT : True := hI; clear hT hI))))
      | ((first | (apply jP; rfl; decide) | (apply jQ; rfl; decide; decide)); (simp (disch := omega) only [push_cast, simprocAttr, hS1, hZ1, hiT, hiS, u1, u2, v1, v2, hN1, natNe, zI, zG, zJ, zM, Bool.true_and, zO, beq_self_eq_true, zP] <;> rfl))
      | ((first | (apply jV cx_ok; decide) | (apply jW cx_ok; decide; decide)); (iterate 2 (simp (disch := omega) only [push_cast, simprocAttr, hS1, hZ1, hiT, hiS, u1, u2, v1, v2, hN1, natNe, zI, zG, zJ, zM, Bool.true_and, zO, beq_self_eq_true, zP] <;> rfl)); (with_reducible first | exact c66); try first | rfl | (simp (disch := omega) only [push_cast, simprocAttr, hS1, hZ1, hiT, hiS, u1, u2, v1, v2, hN1, natNe, zI, zG, zJ, zM, Bool.true_and, zO, beq_self_eq_true, zP] <;> rfl))
      | ((first | apply jf | apply jg); (iterate 2 (try (simp (disch := omega) only [push_cast, simprocAttr, hS1, hZ1, hiT, hiS, u1, u2, v1, v2, hN1, natNe, zI, zG, zJ, zM, Bool.true_and, zO, beq_self_eq_true, zP] <;> rfl))))

    all_goals (show _ = _; rfl)
  have hM1 : a.pos.lo ≤ N := by omega
  by_cases hN2 : a.pos.hi < N
  · have hN2' : ¬ N ≤ a.pos.hi := by omega
    have hRf := hRF i1 hi (by rw [hQ]; simp [hN2'])
    subst hRf
    repeat' first
      | apply jA | apply jB | apply jC | apply jD | apply jE | apply jF | apply jG | apply jH | apply jI | apply jJ
      | refine W.draw cx_mixed (by decide +kernel) ?_
      | ((first | (apply jK cx_ok; decide) | (apply jL cx_ok; decide; decide) | apply jM cx_ok | (apply jN; rfl; decide) | (apply jO; rfl; decide; decide) | apply jR); (simp (disch := omega) only [push_cast, simprocAttr, hS1, hZ1, hiT, hiS, u1, u2, v1, v2, hN1, hN2, natNe, zI, zG, zJ, zM, Bool.true_and, zO, beq_self_eq_true, zP] <;> rfl); all_goals try ((with_reducible intro hI); try first | (cases hI; done) | (simp only [INTS, zL] at hI; try first | (exfalso; omega) | (have hT : True := hI; clear hT hI))))
      | ((first | (apply jP; rfl; decide) | (apply jQ; rfl; decide; decide)); (simp (disch := omega) only [push_cast, simprocAttr, hS1, hZ1, hiT, hiS, u1, u2, v1, v2, hN1, hN2, natNe, zI, zG, zJ, zM, Bool.true_and, zO, beq_self_eq_true, zP] <;> rfl))
      | ((first | (apply jV cx_ok; decide) | (apply jW cx_ok; decide; decide)); (iterate 2 (simp (disch := omega) only [push_cast, simprocAttr, hS1, hZ1, hiT, hiS, u1, u2, v1, v2, hN1, hN2, natNe, zI, zG, zJ, zM, Bool.true_and, zO, beq_self_eq_true, zP] <;> rfl)); (with_reducible first | exact c66); try first | rfl | (simp (disch := omega) only [push_cast, simprocAttr, hS1, hZ1, hiT, hiS, u1, u2, v1, v2, hN1, hN2, natNe, zI, zG, zJ, zM, Bool.true_and, zO, beq_self_eq_true, zP] <;> rfl))
      | ((first | apply jf | apply jg); (iterate 2 (try (simp (disch := omega) only [push_cast, simprocAttr, hS1, hZ1, hiT, hiS, u1, u2, v1, v2, hN1, hN2, natNe, zI, zG, zJ, zM, Bool.true_and, zO, beq_self_eq_true, zP] <;> rfl))))

    all_goals (show _ = _; rfl)
  have hM2 : N ≤ a.pos.hi := by omega
  by_cases h0 : i1 = 0
  · have h0F : ¬ (0 : Int) < (i1 : Int) := by omega
    have hz : (decide (i1 = 0) || decide (ts.getD (i1 - 1) 0 ≤ t)) = true := by rw [h0]; rfl
    rw [hz] at hQ
    clear h0 hz
    repeat' first
      | apply jA | apply jB | apply jC | apply jD | apply jE | apply jF | apply jG | apply jH | apply jI | apply jJ
      | refine W.draw cx_mixed (by decide +kernel) ?_
      | ((first | (apply jK cx_ok; decide) | (apply jL cx_ok; decide; decide) | apply jM cx_ok | (apply jN; rfl; decide) | (apply jO; rfl; decide; decide) | apply jR); (simp (disch := omega) only [push_cast, simprocAttr, hS1, hZ1, hiT, hiS, u1, u2, v1, v2, hN1, hN2, h0F, natNe, zI, zG, zJ, zM, Bool.true_and, zO, beq_self_eq_true, zP] <;> rfl); all_goals try ((with_reducible intro hI); try first | (cases hI; done) | (simp only [INTS, zL] at hI; try first | (exfalso; omega) | (have hT : True := hI; clear hT hI))))
      | ((first | (apply jP; rfl; decide) | (apply jQ; rfl; decide; decide)); (simp (disch := omega) only [push_cast, simprocAttr, hS1, hZ1, hiT, hiS, u1, u2, v1, v2, hN1, hN2, h0F, natNe, zI, zG, zJ, zM, Bool.true_and, zO, beq_self_eq_true, zP] <;> rfl))
      | ((first | (apply jV cx_ok; decide) | (apply jW cx_ok; decide; decide)); (iterate 2 (simp (disch := omega) only [push_cast, simprocAttr, hS1, hZ1, hiT, hiS, u1, u2, v1, v2, hN1, hN2, h0F, natNe, zI, zG, zJ, zM, Bool.true_and, zO, beq_self_eq_true, zP] <;> rfl)); (with_reducible first | exact c66); try first | rfl | (simp (disch := omega) only [push_cast, simprocAttr, hS1, hZ1, hiT, hiS, u1, u2, v1, v2, hN1, hN2, h0F, natNe, zI, zG, zJ, zM, Bool.true_and, zO, beq_self_eq_true, zP] <;> rfl))
      | ((first | apply jf | apply jg); (iterate 2 (try (simp (disch := omega) only [push_cast, simprocAttr, hS1, hZ1, hiT, hiS, u1, u2, v1, v2, hN1, hN2, h0F, natNe, zI, zG, zJ, zM, Bool.true_and, zO, beq_self_eq_true, zP] <;> rfl))))

    refine AW.loop (fun n s => ∃ (k : Nat) (rest : List Sight), n = rest.length ∧ (r.sights.drop k = rest) ∧ (rest.all (SB a.id t) = SA) ∧ 2 ≤ s.nx ∧ s.tm 2 = lInt ts ∧ s.tm 3 = .ptr 0 0 0 1 ∧ s.tm 4 = .ptr 1 0 0 1 ∧ s.tm 7 = ai i1 ∧ s.tm 10 = ai k ∧ Pg.rowAt s.H (0) = some ({ k := 14, es := [eRec r], ty := 30 }) ∧ Pg.rowAt s.H (1) = some ({ k := 3, es := [eRun x], ty := 100 })) (r.sights.length) ⟨0, r.sights, rfl, rfl, hSA, ?_, ?_, ?_, ?_, ?_, ?_, ?_, ?_⟩ ?_
    iterate 8 (first | (simp (disch := omega) only [push_cast, simprocAttr, hS1, hZ1, natNe, zI, zG, zJ, zM, Bool.true_and, zO, beq_self_eq_true, zP] <;> first | rfl | omega) | omega)
    rintro n2 s2 ⟨k2, rest2, hn2, hp02, hp12, hnl2, hS2⟩
    have hZ2 : (0 : Nat) ≠ s2.nx ∧ s2.nx ≠ (0 : Nat) ∧ (1 : Nat) ≠ s2.nx ∧ s2.nx ≠ (1 : Nat) := by omega
    rcases rest2 with _ | ⟨s, rest2⟩
    · have hk2 := drop_nil hp02
      have hSt : SA = true := hp12.symm
      subst hSt
      have hpre : ∀ j, j < i1 + 1 → QB r x ts j = true := fun j hj => by
        rcases Nat.lt_succ_iff_lt_or_eq.1 hj with h | h
        · exact hp11 j h
        · rw [h, hQ]; simp [hM1, hM2]
      repeat' first
        | apply jA | apply jB | apply jC | apply jD | apply jE | apply jF | apply jG | apply jH | apply jI | apply jJ
        | refine W.draw cx_mixed (by decide +kernel) ?_
        | ((first | (apply jK cx_ok; decide) | (apply jL cx_ok; decide; decide) | apply jM cx_ok | (apply jN; rfl; decide) | (apply jO; rfl; decide; decide) | apply jR); (simp (disch := omega) only [push_cast, simprocAttr, hS2, hZ2, hk2, natNe, zI, zG, zJ, zM, Bool.true_and, zO, beq_self_eq_true, zP] <;> rfl); all_goals try ((with_reducible intro hI); try first | (cases hI; done) | (simp only [INTS, zL] at hI; try first | (exfalso; omega) | (have hT : True := hI; clear hT hI))))
        | ((first | (apply jP; rfl; decide) | (apply jQ; rfl; decide; decide)); (simp (disch := omega) only [push_cast, simprocAttr, hS2, hZ2, hk2, natNe, zI, zG, zJ, zM, Bool.true_and, zO, beq_self_eq_true, zP] <;> rfl))
        | ((first | apply jf | apply jg); (iterate 2 (try (simp (disch := omega) only [push_cast, simprocAttr, hS2, hZ2, hk2, natNe, zI, zG, zJ, zM, Bool.true_and, zO, beq_self_eq_true, zP] <;> rfl))))

      all_goals (refine ⟨ts.length - (i1 + 1), ?_, i1 + 1, rfl, (by omega), hpre, ?_, ?_, ?_, ?_, ?_, ?_, ?_⟩; (omega); all_goals first | (simp (disch := omega) only [push_cast, simprocAttr, hS2, hZ2, natNe, zI, zG, zJ, zM, Bool.true_and, zO, beq_self_eq_true, zP, hk2] <;> first | rfl | omega) | omega)
    · obtain ⟨hk2, hg2, hd2, hl2, hm2, hx2⟩ := drop_cons hp02 eSight []
      rw [List.all_cons] at hp12
      by_cases hid : s.strike = a.id
      · have hidT : (s.strike = a.id) = True := eq_true hid
        by_cases hA : t < s.seen.lo
        · have hSf : SA = false := by rw [← hp12]; simp [SB, hid]; omega
          subst hSf
          have hRf := hRF i1 hi (by rw [hQ]; simp)
          subst hRf
          repeat' first
            | apply jA | apply jB | apply jC | apply jD | apply jE | apply jF | apply jG | apply jH | apply jI | apply jJ
            | refine W.draw cx_mixed (by decide +kernel) ?_
            | ((first | (apply jK cx_ok; decide) | (apply jL cx_ok; decide; decide) | apply jM cx_ok | (apply jN; rfl; decide) | (apply jO; rfl; decide; decide) | apply jR); (simp (disch := omega) only [push_cast, simprocAttr, hS2, hZ2, hk2, hg2, hx2, hiT, hiS, u1, u2, v1, v2, natNe, zI, zG, zJ, zM, Bool.true_and, zO, beq_self_eq_true, zP, hidT, hA] <;> rfl); all_goals try ((with_reducible intro hI); try first | (cases hI; done) | (simp only [INTS, zL] at hI; try first | (exfalso; omega) | (have hT : True := hI; clear hT hI))))
            | ((first | (apply jP; rfl; decide) | (apply jQ; rfl; decide; decide)); (simp (disch := omega) only [push_cast, simprocAttr, hS2, hZ2, hk2, hg2, hx2, hiT, hiS, u1, u2, v1, v2, natNe, zI, zG, zJ, zM, Bool.true_and, zO, beq_self_eq_true, zP, hidT, hA] <;> rfl))
            | ((first | apply jf | apply jg); (iterate 2 (try (simp (disch := omega) only [push_cast, simprocAttr, hS2, hZ2, hk2, hg2, hx2, hiT, hiS, u1, u2, v1, v2, natNe, zI, zG, zJ, zM, Bool.true_and, zO, beq_self_eq_true, zP, hidT, hA] <;> rfl))))

          all_goals (show _ = _; rfl)
        by_cases hB : s.seen.hi < t
        · have hSf : SA = false := by rw [← hp12]; simp [SB, hid]; omega
          subst hSf
          have hRf := hRF i1 hi (by rw [hQ]; simp)
          subst hRf
          repeat' first
            | apply jA | apply jB | apply jC | apply jD | apply jE | apply jF | apply jG | apply jH | apply jI | apply jJ
            | refine W.draw cx_mixed (by decide +kernel) ?_
            | ((first | (apply jK cx_ok; decide) | (apply jL cx_ok; decide; decide) | apply jM cx_ok | (apply jN; rfl; decide) | (apply jO; rfl; decide; decide) | apply jR); (simp (disch := omega) only [push_cast, simprocAttr, hS2, hZ2, hk2, hg2, hx2, hiT, hiS, u1, u2, v1, v2, natNe, zI, zG, zJ, zM, Bool.true_and, zO, beq_self_eq_true, zP, hidT, hB, hA] <;> rfl); all_goals try ((with_reducible intro hI); try first | (cases hI; done) | (simp only [INTS, zL] at hI; try first | (exfalso; omega) | (have hT : True := hI; clear hT hI))))
            | ((first | (apply jP; rfl; decide) | (apply jQ; rfl; decide; decide)); (simp (disch := omega) only [push_cast, simprocAttr, hS2, hZ2, hk2, hg2, hx2, hiT, hiS, u1, u2, v1, v2, natNe, zI, zG, zJ, zM, Bool.true_and, zO, beq_self_eq_true, zP, hidT, hB, hA] <;> rfl))
            | ((first | apply jf | apply jg); (iterate 2 (try (simp (disch := omega) only [push_cast, simprocAttr, hS2, hZ2, hk2, hg2, hx2, hiT, hiS, u1, u2, v1, v2, natNe, zI, zG, zJ, zM, Bool.true_and, zO, beq_self_eq_true, zP, hidT, hB, hA] <;> rfl))))

          all_goals (show _ = _; rfl)
        repeat' first
          | apply jA | apply jB | apply jC | apply jD | apply jE | apply jF | apply jG | apply jH | apply jI | apply jJ
          | refine W.draw cx_mixed (by decide +kernel) ?_
          | ((first | (apply jK cx_ok; decide) | (apply jL cx_ok; decide; decide) | apply jM cx_ok | (apply jN; rfl; decide) | (apply jO; rfl; decide; decide) | apply jR); (simp (disch := omega) only [push_cast, simprocAttr, hS2, hZ2, hk2, hg2, hx2, hiT, hiS, u1, u2, v1, v2, natNe, zI, zG, zJ, zM, Bool.true_and, zO, beq_self_eq_true, zP, hidT, hA, hB] <;> rfl); all_goals try ((with_reducible intro hI); try first | (cases hI; done) | (simp only [INTS, zL] at hI; try first | (exfalso; omega) | (have hT : True := hI; clear hT hI))))
          | ((first | (apply jP; rfl; decide) | (apply jQ; rfl; decide; decide)); (simp (disch := omega) only [push_cast, simprocAttr, hS2, hZ2, hk2, hg2, hx2, hiT, hiS, u1, u2, v1, v2, natNe, zI, zG, zJ, zM, Bool.true_and, zO, beq_self_eq_true, zP, hidT, hA, hB] <;> rfl))
          | ((first | apply jf | apply jg); (iterate 2 (try (simp (disch := omega) only [push_cast, simprocAttr, hS2, hZ2, hk2, hg2, hx2, hiT, hiS, u1, u2, v1, v2, natNe, zI, zG, zJ, zM, Bool.true_and, zO, beq_self_eq_true, zP, hidT, hA, hB] <;> rfl))))

        all_goals (refine ⟨rest2.length, ?_, k2 + 1, rest2, rfl, hd2, (by rw [← hp12]; simp [SB, hid, Int.not_lt.1 hA, Int.not_lt.1 hB]), ?_, ?_, ?_, ?_, ?_, ?_, ?_, ?_⟩; ((simp only [zD] at *; omega)); all_goals first | (simp (disch := omega) only [push_cast, simprocAttr, hS2, hZ2, natNe, zI, zG, zJ, zM, Bool.true_and, zO, beq_self_eq_true, zP, hk2] <;> first | rfl | omega) | omega)
      · have hidF : (s.strike = a.id) = False := eq_false hid
        repeat' first
          | apply jA | apply jB | apply jC | apply jD | apply jE | apply jF | apply jG | apply jH | apply jI | apply jJ
          | refine W.draw cx_mixed (by decide +kernel) ?_
          | ((first | (apply jK cx_ok; decide) | (apply jL cx_ok; decide; decide) | apply jM cx_ok | (apply jN; rfl; decide) | (apply jO; rfl; decide; decide) | apply jR); (simp (disch := omega) only [push_cast, simprocAttr, hS2, hZ2, hk2, hg2, hx2, hiT, hiS, u1, u2, v1, v2, natNe, zI, zG, zJ, zM, Bool.true_and, zO, beq_self_eq_true, zP, hidF] <;> rfl); all_goals try ((with_reducible intro hI); try first | (cases hI; done) | (simp only [INTS, zL] at hI; try first | (exfalso; omega) | (have hT : True := hI; clear hT hI))))
          | ((first | (apply jP; rfl; decide) | (apply jQ; rfl; decide; decide)); (simp (disch := omega) only [push_cast, simprocAttr, hS2, hZ2, hk2, hg2, hx2, hiT, hiS, u1, u2, v1, v2, natNe, zI, zG, zJ, zM, Bool.true_and, zO, beq_self_eq_true, zP, hidF] <;> rfl))
          | ((first | apply jf | apply jg); (iterate 2 (try (simp (disch := omega) only [push_cast, simprocAttr, hS2, hZ2, hk2, hg2, hx2, hiT, hiS, u1, u2, v1, v2, natNe, zI, zG, zJ, zM, Bool.true_and, zO, beq_self_eq_true, zP, hidF] <;> rfl))))

        all_goals (refine ⟨rest2.length, ?_, k2 + 1, rest2, rfl, hd2, (by rw [← hp12]; simp [SB, hid]), ?_, ?_, ?_, ?_, ?_, ?_, ?_, ?_⟩; ((simp only [zD] at *; omega)); all_goals first | (simp (disch := omega) only [push_cast, simprocAttr, hS2, hZ2, natNe, zI, zG, zJ, zM, Bool.true_and, zO, beq_self_eq_true, zP, hk2] <;> first | rfl | omega) | omega)
  · have h0T : (0 : Int) < (i1 : Int) := by omega
    obtain ⟨t0, ht0⟩ : ∃ z, ts[i1 - 1]? = some z := ⟨_, List.getElem?_eq_getElem (by omega)⟩
    have w1 : (ts.map eInt)[i1 - 1]? = some (eInt t0) := by rw [List.getElem?_map, ht0]; rfl
    have w2 : (ts.map eInt).getD (i1 - 1) [] = eInt t0 := by rw [List.getD_eq_getElem?_getD, w1]; rfl
    have gt0 : ts.getD (i1 - 1) 0 = t0 := by rw [List.getD_eq_getElem?_getD, ht0]; rfl
    have hjN : ((i1 : Int) - 1).toNat = i1 - 1 := by omega
    have hjP : (0 : Int) ≤ (i1 : Int) - 1 := by omega
    have hjL : (i1 : Int) - 1 < (ts.length : Int) := by omega
    rw [gt0] at hQ
    by_cases hO : t < t0
    · have hO' : ¬ t0 ≤ t := by omega
      have hRf := hRF i1 hi (by rw [hQ]; simp [h0, hO'])
      subst hRf
      repeat' first
        | apply jA | apply jB | apply jC | apply jD | apply jE | apply jF | apply jG | apply jH | apply jI | apply jJ
        | refine W.draw cx_mixed (by decide +kernel) ?_
        | ((first | (apply jK cx_ok; decide) | (apply jL cx_ok; decide; decide) | apply jM cx_ok | (apply jN; rfl; decide) | (apply jO; rfl; decide; decide) | apply jR); (simp (disch := omega) only [push_cast, simprocAttr, hS1, hZ1, hiT, hiS, u1, u2, v1, v2, hN1, hN2, h0T, w1, w2, hjN, hjP, hjL, hO, natNe, zI, zG, zJ, zM, Bool.true_and, zO, beq_self_eq_true, zP] <;> rfl); all_goals try ((with_reducible intro hI); try first | (cases hI; done) | (simp only [INTS, zL] at hI; try first | (exfalso; omega) | (have hT : True := hI; clear hT hI))))
        | ((first | (apply jP; rfl; decide) | (apply jQ; rfl; decide; decide)); (simp (disch := omega) only [push_cast, simprocAttr, hS1, hZ1, hiT, hiS, u1, u2, v1, v2, hN1, hN2, h0T, w1, w2, hjN, hjP, hjL, hO, natNe, zI, zG, zJ, zM, Bool.true_and, zO, beq_self_eq_true, zP] <;> rfl))
        | ((first | (apply jV cx_ok; decide) | (apply jW cx_ok; decide; decide)); (iterate 2 (simp (disch := omega) only [push_cast, simprocAttr, hS1, hZ1, hiT, hiS, u1, u2, v1, v2, hN1, hN2, h0T, w1, w2, hjN, hjP, hjL, hO, natNe, zI, zG, zJ, zM, Bool.true_and, zO, beq_self_eq_true, zP] <;> rfl)); (with_reducible first | exact c66); try first | rfl | (simp (disch := omega) only [push_cast, simprocAttr, hS1, hZ1, hiT, hiS, u1, u2, v1, v2, hN1, hN2, h0T, w1, w2, hjN, hjP, hjL, hO, natNe, zI, zG, zJ, zM, Bool.true_and, zO, beq_self_eq_true, zP] <;> rfl))
        | ((first | apply jf | apply jg); (iterate 2 (try (simp (disch := omega) only [push_cast, simprocAttr, hS1, hZ1, hiT, hiS, u1, u2, v1, v2, hN1, hN2, h0T, w1, w2, hjN, hjP, hjL, hO, natNe, zI, zG, zJ, zM, Bool.true_and, zO, beq_self_eq_true, zP] <;> rfl))))

      all_goals (show _ = _; rfl)
    · have hz : (decide (i1 = 0) || decide (t0 ≤ t)) = true := by rw [decide_eq_true (show t0 ≤ t by omega), Bool.or_true]
      rw [hz] at hQ
      clear hz
      repeat' first
        | apply jA | apply jB | apply jC | apply jD | apply jE | apply jF | apply jG | apply jH | apply jI | apply jJ
        | refine W.draw cx_mixed (by decide +kernel) ?_
        | ((first | (apply jK cx_ok; decide) | (apply jL cx_ok; decide; decide) | apply jM cx_ok | (apply jN; rfl; decide) | (apply jO; rfl; decide; decide) | apply jR); (simp (disch := omega) only [push_cast, simprocAttr, hS1, hZ1, hiT, hiS, u1, u2, v1, v2, hN1, hN2, h0T, w1, w2, hjN, hjP, hjL, hO, natNe, zI, zG, zJ, zM, Bool.true_and, zO, beq_self_eq_true, zP] <;> rfl); all_goals try ((with_reducible intro hI); try first | (cases hI; done) | (simp only [INTS, zL] at hI; try first | (exfalso; omega) | (have hT : True := hI; clear hT hI))))
        | ((first | (apply jP; rfl; decide) | (apply jQ; rfl; decide; decide)); (simp (disch := omega) only [push_cast, simprocAttr, hS1, hZ1, hiT, hiS, u1, u2, v1, v2, hN1, hN2, h0T, w1, w2, hjN, hjP, hjL, hO, natNe, zI, zG, zJ, zM, Bool.true_and, zO, beq_self_eq_true, zP] <;> rfl))
        | ((first | (apply jV cx_ok; decide) | (apply jW cx_ok; decide; decide)); (iterate 2 (simp (disch := omega) only [push_cast, simprocAttr, hS1, hZ1, hiT, hiS, u1, u2, v1, v2, hN1, hN2, h0T, w1, w2, hjN, hjP, hjL, hO, natNe, zI, zG, zJ, zM, Bool.true_and, zO, beq_self_eq_true, zP] <;> rfl)); (with_reducible first | exact c66); try first | rfl | (simp (disch := omega) only [push_cast, simprocAttr, hS1, hZ1, hiT, hiS, u1, u2, v1, v2, hN1, hN2, h0T, w1, w2, hjN, hjP, hjL, hO, natNe, zI, zG, zJ, zM, Bool.true_and, zO, beq_self_eq_true, zP] <;> rfl))
        | ((first | apply jf | apply jg); (iterate 2 (try (simp (disch := omega) only [push_cast, simprocAttr, hS1, hZ1, hiT, hiS, u1, u2, v1, v2, hN1, hN2, h0T, w1, w2, hjN, hjP, hjL, hO, natNe, zI, zG, zJ, zM, Bool.true_and, zO, beq_self_eq_true, zP] <;> rfl))))

      refine AW.loop (fun n s => ∃ (k : Nat) (rest : List Sight), n = rest.length ∧ (r.sights.drop k = rest) ∧ (rest.all (SB a.id t) = SA) ∧ 2 ≤ s.nx ∧ s.tm 2 = lInt ts ∧ s.tm 3 = .ptr 0 0 0 1 ∧ s.tm 4 = .ptr 1 0 0 1 ∧ s.tm 7 = ai i1 ∧ s.tm 10 = ai k ∧ Pg.rowAt s.H (0) = some ({ k := 14, es := [eRec r], ty := 30 }) ∧ Pg.rowAt s.H (1) = some ({ k := 3, es := [eRun x], ty := 100 })) (r.sights.length) ⟨0, r.sights, rfl, rfl, hSA, ?_, ?_, ?_, ?_, ?_, ?_, ?_, ?_⟩ ?_
      iterate 8 (first | (simp (disch := omega) only [push_cast, simprocAttr, hS1, hZ1, natNe, zI, zG, zJ, zM, Bool.true_and, zO, beq_self_eq_true, zP] <;> first | rfl | omega) | omega)
      rintro n2 s2 ⟨k2, rest2, hn2, hp02, hp12, hnl2, hS2⟩
      have hZ2 : (0 : Nat) ≠ s2.nx ∧ s2.nx ≠ (0 : Nat) ∧ (1 : Nat) ≠ s2.nx ∧ s2.nx ≠ (1 : Nat) := by omega
      rcases rest2 with _ | ⟨s, rest2⟩
      · have hk2 := drop_nil hp02
        have hSt : SA = true := hp12.symm
        subst hSt
        have hpre : ∀ j, j < i1 + 1 → QB r x ts j = true := fun j hj => by
          rcases Nat.lt_succ_iff_lt_or_eq.1 hj with h | h
          · exact hp11 j h
          · rw [h, hQ]; simp [hM1, hM2]
        repeat' first
          | apply jA | apply jB | apply jC | apply jD | apply jE | apply jF | apply jG | apply jH | apply jI | apply jJ
          | refine W.draw cx_mixed (by decide +kernel) ?_
          | ((first | (apply jK cx_ok; decide) | (apply jL cx_ok; decide; decide) | apply jM cx_ok | (apply jN; rfl; decide) | (apply jO; rfl; decide; decide) | apply jR); (simp (disch := omega) only [push_cast, simprocAttr, hS2, hZ2, hk2, natNe, zI, zG, zJ, zM, Bool.true_and, zO, beq_self_eq_true, zP] <;> rfl); all_goals try ((with_reducible intro hI); try first | (cases hI; done) | (simp only [INTS, zL] at hI; try first | (exfalso; omega) | (have hT : True := hI; clear hT hI))))
          | ((first | (apply jP; rfl; decide) | (apply jQ; rfl; decide; decide)); (simp (disch := omega) only [push_cast, simprocAttr, hS2, hZ2, hk2, natNe, zI, zG, zJ, zM, Bool.true_and, zO, beq_self_eq_true, zP] <;> rfl))
          | ((first | apply jf | apply jg); (iterate 2 (try (simp (disch := omega) only [push_cast, simprocAttr, hS2, hZ2, hk2, natNe, zI, zG, zJ, zM, Bool.true_and, zO, beq_self_eq_true, zP] <;> rfl))))

        all_goals (refine ⟨ts.length - (i1 + 1), ?_, i1 + 1, rfl, (by omega), hpre, ?_, ?_, ?_, ?_, ?_, ?_, ?_⟩; (omega); all_goals first | (simp (disch := omega) only [push_cast, simprocAttr, hS2, hZ2, natNe, zI, zG, zJ, zM, Bool.true_and, zO, beq_self_eq_true, zP, hk2] <;> first | rfl | omega) | omega)
      · obtain ⟨hk2, hg2, hd2, hl2, hm2, hx2⟩ := drop_cons hp02 eSight []
        rw [List.all_cons] at hp12
        by_cases hid : s.strike = a.id
        · have hidT : (s.strike = a.id) = True := eq_true hid
          by_cases hA : t < s.seen.lo
          · have hSf : SA = false := by rw [← hp12]; simp [SB, hid]; omega
            subst hSf
            have hRf := hRF i1 hi (by rw [hQ]; simp)
            subst hRf
            repeat' first
              | apply jA | apply jB | apply jC | apply jD | apply jE | apply jF | apply jG | apply jH | apply jI | apply jJ
              | refine W.draw cx_mixed (by decide +kernel) ?_
              | ((first | (apply jK cx_ok; decide) | (apply jL cx_ok; decide; decide) | apply jM cx_ok | (apply jN; rfl; decide) | (apply jO; rfl; decide; decide) | apply jR); (simp (disch := omega) only [push_cast, simprocAttr, hS2, hZ2, hk2, hg2, hx2, hiT, hiS, u1, u2, v1, v2, natNe, zI, zG, zJ, zM, Bool.true_and, zO, beq_self_eq_true, zP, hidT, hA] <;> rfl); all_goals try ((with_reducible intro hI); try first | (cases hI; done) | (simp only [INTS, zL] at hI; try first | (exfalso; omega) | (have hT : True := hI; clear hT hI))))
              | ((first | (apply jP; rfl; decide) | (apply jQ; rfl; decide; decide)); (simp (disch := omega) only [push_cast, simprocAttr, hS2, hZ2, hk2, hg2, hx2, hiT, hiS, u1, u2, v1, v2, natNe, zI, zG, zJ, zM, Bool.true_and, zO, beq_self_eq_true, zP, hidT, hA] <;> rfl))
              | ((first | apply jf | apply jg); (iterate 2 (try (simp (disch := omega) only [push_cast, simprocAttr, hS2, hZ2, hk2, hg2, hx2, hiT, hiS, u1, u2, v1, v2, natNe, zI, zG, zJ, zM, Bool.true_and, zO, beq_self_eq_true, zP, hidT, hA] <;> rfl))))

            all_goals (show _ = _; rfl)
          by_cases hB : s.seen.hi < t
          · have hSf : SA = false := by rw [← hp12]; simp [SB, hid]; omega
            subst hSf
            have hRf := hRF i1 hi (by rw [hQ]; simp)
            subst hRf
            repeat' first
              | apply jA | apply jB | apply jC | apply jD | apply jE | apply jF | apply jG | apply jH | apply jI | apply jJ
              | refine W.draw cx_mixed (by decide +kernel) ?_
              | ((first | (apply jK cx_ok; decide) | (apply jL cx_ok; decide; decide) | apply jM cx_ok | (apply jN; rfl; decide) | (apply jO; rfl; decide; decide) | apply jR); (simp (disch := omega) only [push_cast, simprocAttr, hS2, hZ2, hk2, hg2, hx2, hiT, hiS, u1, u2, v1, v2, natNe, zI, zG, zJ, zM, Bool.true_and, zO, beq_self_eq_true, zP, hidT, hB, hA] <;> rfl); all_goals try ((with_reducible intro hI); try first | (cases hI; done) | (simp only [INTS, zL] at hI; try first | (exfalso; omega) | (have hT : True := hI; clear hT hI))))
              | ((first | (apply jP; rfl; decide) | (apply jQ; rfl; decide; decide)); (simp (disch := omega) only [push_cast, simprocAttr, hS2, hZ2, hk2, hg2, hx2, hiT, hiS, u1, u2, v1, v2, natNe, zI, zG, zJ, zM, Bool.true_and, zO, beq_self_eq_true, zP, hidT, hB, hA] <;> rfl))
              | ((first | apply jf | apply jg); (iterate 2 (try (simp (disch := omega) only [push_cast, simprocAttr, hS2, hZ2, hk2, hg2, hx2, hiT, hiS, u1, u2, v1, v2, natNe, zI, zG, zJ, zM, Bool.true_and, zO, beq_self_eq_true, zP, hidT, hB, hA] <;> rfl))))

            all_goals (show _ = _; rfl)
          repeat' first
            | apply jA | apply jB | apply jC | apply jD | apply jE | apply jF | apply jG | apply jH | apply jI | apply jJ
            | refine W.draw cx_mixed (by decide +kernel) ?_
            | ((first | (apply jK cx_ok; decide) | (apply jL cx_ok; decide; decide) | apply jM cx_ok | (apply jN; rfl; decide) | (apply jO; rfl; decide; decide) | apply jR); (simp (disch := omega) only [push_cast, simprocAttr, hS2, hZ2, hk2, hg2, hx2, hiT, hiS, u1, u2, v1, v2, natNe, zI, zG, zJ, zM, Bool.true_and, zO, beq_self_eq_true, zP, hidT, hA, hB] <;> rfl); all_goals try ((with_reducible intro hI); try first | (cases hI; done) | (simp only [INTS, zL] at hI; try first | (exfalso; omega) | (have hT : True := hI; clear hT hI))))
            | ((first | (apply jP; rfl; decide) | (apply jQ; rfl; decide; decide)); (simp (disch := omega) only [push_cast, simprocAttr, hS2, hZ2, hk2, hg2, hx2, hiT, hiS, u1, u2, v1, v2, natNe, zI, zG, zJ, zM, Bool.true_and, zO, beq_self_eq_true, zP, hidT, hA, hB] <;> rfl))
            | ((first | apply jf | apply jg); (iterate 2 (try (simp (disch := omega) only [push_cast, simprocAttr, hS2, hZ2, hk2, hg2, hx2, hiT, hiS, u1, u2, v1, v2, natNe, zI, zG, zJ, zM, Bool.true_and, zO, beq_self_eq_true, zP, hidT, hA, hB] <;> rfl))))

          all_goals (refine ⟨rest2.length, ?_, k2 + 1, rest2, rfl, hd2, (by rw [← hp12]; simp [SB, hid, Int.not_lt.1 hA, Int.not_lt.1 hB]), ?_, ?_, ?_, ?_, ?_, ?_, ?_, ?_⟩; ((simp only [zD] at *; omega)); all_goals first | (simp (disch := omega) only [push_cast, simprocAttr, hS2, hZ2, natNe, zI, zG, zJ, zM, Bool.true_and, zO, beq_self_eq_true, zP, hk2] <;> first | rfl | omega) | omega)
        · have hidF : (s.strike = a.id) = False := eq_false hid
          repeat' first
            | apply jA | apply jB | apply jC | apply jD | apply jE | apply jF | apply jG | apply jH | apply jI | apply jJ
            | refine W.draw cx_mixed (by decide +kernel) ?_
            | ((first | (apply jK cx_ok; decide) | (apply jL cx_ok; decide; decide) | apply jM cx_ok | (apply jN; rfl; decide) | (apply jO; rfl; decide; decide) | apply jR); (simp (disch := omega) only [push_cast, simprocAttr, hS2, hZ2, hk2, hg2, hx2, hiT, hiS, u1, u2, v1, v2, natNe, zI, zG, zJ, zM, Bool.true_and, zO, beq_self_eq_true, zP, hidF] <;> rfl); all_goals try ((with_reducible intro hI); try first | (cases hI; done) | (simp only [INTS, zL] at hI; try first | (exfalso; omega) | (have hT : True := hI; clear hT hI))))
            | ((first | (apply jP; rfl; decide) | (apply jQ; rfl; decide; decide)); (simp (disch := omega) only [push_cast, simprocAttr, hS2, hZ2, hk2, hg2, hx2, hiT, hiS, u1, u2, v1, v2, natNe, zI, zG, zJ, zM, Bool.true_and, zO, beq_self_eq_true, zP, hidF] <;> rfl))
            | ((first | apply jf | apply jg); (iterate 2 (try (simp (disch := omega) only [push_cast, simprocAttr, hS2, hZ2, hk2, hg2, hx2, hiT, hiS, u1, u2, v1, v2, natNe, zI, zG, zJ, zM, Bool.true_and, zO, beq_self_eq_true, zP, hidF] <;> rfl))))

          all_goals (refine ⟨rest2.length, ?_, k2 + 1, rest2, rfl, hd2, (by rw [← hp12]; simp [SB, hid]), ?_, ?_, ?_, ?_, ?_, ?_, ?_, ?_⟩; ((simp only [zD] at *; omega)); all_goals first | (simp (disch := omega) only [push_cast, simprocAttr, hS2, hZ2, natNe, zI, zG, zJ, zM, Bool.true_and, zO, beq_self_eq_true, zP, hk2] <;> first | rfl | omega) | omega)
end Go.Proofs.Ks
