/-
  Contracts of functions, proved by going through their code. No conditions.
-/
import Derived.Test.YtdlflcambboojaaRaa
import Derived.Test.YtdlflcambboojaaRaw
import Derived.Test.YtdlflcambboojaaRba
import Derived.Test.YtdlflcambboojaaRbc
import Derived.Test.YtdlflcambboojaaRbd
import Derived.Test.YtdlflcambboojaaRbf
import Derived.Test.YtdlflcambboojaaN15KlT
import Derived.Test.YtdlflcambboojaaN15KpJ
set_option linter.unusedVariables false
set_option linter.unusedSimpArgs false
set_option maxHeartbeats 8000000
set_option maxRecDepth 10000
namespace Go.Proofs.Ks
open Go Go.Pg Go.Proofs
theorem true_cases (r : Rec) (x : Run) (ts : List Int) (h60 : x.legs.length ≤ 60) (h20 : r.strikes.length ≤ 20) (hs20 : r.sights.length ≤ 20) (ht20 : ts.length ≤ 20) :
    OKv cx 72 [.agg (eRec r), .agg (eRun x), lInt ts] (ab false) ∨ (checkE r = 0 ∧ playsE r.s x = 0 ∧ ts.length = r.strikes.length ∧ (List.range ts.length).all (QB r x ts) = true ∧ OKv cx 72 [.agg (eRec r), .agg (eRun x), lInt ts] (ab true)) := by
  have c33 := Check_ok r
  have c67 := Plays_ok r.s x (by omega)
  by_cases hc : checkE r = 0
  rotate_left
  · refine .inl ?_
    have hcF : (checkE r = 0) = False := eq_false hc
    obtain ⟨E, hE⟩ : ∃ z, checkE r = z := ⟨_, rfl⟩
    rw [hE] at c33 hcF
    refine OKat.of_body (rs := [6]) Try.func72 rfl (by decide +kernel) rfl (by simp [Try.ntmps72]) ?_
    simp only [Try.ntmps72]
    repeat' first
      | apply jA | apply jB | apply jC | apply jD | apply jE | apply jF | apply jG | apply jH | apply jI | apply jJ
      | refine W.draw cx_mixed (by decide +kernel) ?_
      | ((first | (apply jK cx_ok; decide) | (apply jL cx_ok; decide; decide) | apply jM cx_ok | (apply jN; rfl; decide) | (apply jO; rfl; decide; decide) | apply jR); (simp (disch := omega) only [push_cast, simprocAttr, hcF, natNe, zI, zG, zJ, zM, Bool.true_and, zO, beq_self_eq_true, zP] <;> rfl); all_goals try ((with_reducible intro hI); try first | (cases hI; done) | (simp only [INTS, zL] at hI; try first | (exfalso; omega) | (have hT : True := hI; clear hT hI))))
      | ((first | (apply jP; rfl; decide) | (apply jQ; rfl; decide; decide)); (simp (disch := omega) only [push_cast, simprocAttr, hcF, natNe, zI, zG, zJ, zM, Bool.true_and, zO, beq_self_eq_true, zP] <;> rfl))
      | ((first | (apply jV cx_ok; decide) | (apply jW cx_ok; decide; decide)); (iterate 2 (simp (disch := omega) only [push_cast, simprocAttr, hcF, natNe, zI, zG, zJ, zM, Bool.true_and, zO, beq_self_eq_true, zP] <;> rfl)); (with_reducible first | exact c33 | exact c67); try first | rfl | (simp (disch := omega) only [push_cast, simprocAttr, hcF, natNe, zI, zG, zJ, zM, Bool.true_and, zO, beq_self_eq_true, zP] <;> rfl))
      | ((first | apply jf | apply jg); (iterate 2 (try (simp (disch := omega) only [push_cast, simprocAttr, hcF, natNe, zI, zG, zJ, zM, Bool.true_and, zO, beq_self_eq_true, zP] <;> rfl))))

    all_goals (show _ = _; rfl)
  by_cases hp : playsE r.s x = 0
  rotate_left
  · refine .inl ?_
    have hcF : (playsE r.s x = 0) = False := eq_false hp
    obtain ⟨E, hE⟩ : ∃ z, playsE r.s x = z := ⟨_, rfl⟩
    rw [hE] at c67 hcF
    rw [hc] at c33
    refine OKat.of_body (rs := [6]) Try.func72 rfl (by decide +kernel) rfl (by simp [Try.ntmps72]) ?_
    simp only [Try.ntmps72]
    repeat' first
      | apply jA | apply jB | apply jC | apply jD | apply jE | apply jF | apply jG | apply jH | apply jI | apply jJ
      | refine W.draw cx_mixed (by decide +kernel) ?_
      | ((first | (apply jK cx_ok; decide) | (apply jL cx_ok; decide; decide) | apply jM cx_ok | (apply jN; rfl; decide) | (apply jO; rfl; decide; decide) | apply jR); (simp (disch := omega) only [push_cast, simprocAttr, hcF, natNe, zI, zG, zJ, zM, Bool.true_and, zO, beq_self_eq_true, zP] <;> rfl); all_goals try ((with_reducible intro hI); try first | (cases hI; done) | (simp only [INTS, zL] at hI; try first | (exfalso; omega) | (have hT : True := hI; clear hT hI))))
      | ((first | (apply jP; rfl; decide) | (apply jQ; rfl; decide; decide)); (simp (disch := omega) only [push_cast, simprocAttr, hcF, natNe, zI, zG, zJ, zM, Bool.true_and, zO, beq_self_eq_true, zP] <;> rfl))
      | ((first | (apply jV cx_ok; decide) | (apply jW cx_ok; decide; decide)); (iterate 2 (simp (disch := omega) only [push_cast, simprocAttr, hcF, natNe, zI, zG, zJ, zM, Bool.true_and, zO, beq_self_eq_true, zP] <;> rfl)); (with_reducible first | exact c33 | exact c67); try first | rfl | (simp (disch := omega) only [push_cast, simprocAttr, hcF, natNe, zI, zG, zJ, zM, Bool.true_and, zO, beq_self_eq_true, zP] <;> rfl))
      | ((first | apply jf | apply jg); (iterate 2 (try (simp (disch := omega) only [push_cast, simprocAttr, hcF, natNe, zI, zG, zJ, zM, Bool.true_and, zO, beq_self_eq_true, zP] <;> rfl))))

    all_goals (show _ = _; rfl)
  by_cases hl : ts.length = r.strikes.length
  rotate_left
  · refine .inl ?_
    have hlF : ((ts.length : Int) = (r.strikes.length : Int)) = False := eq_false (by omega)
    rw [hc] at c33
    rw [hp] at c67
    refine OKat.of_body (rs := [6]) Try.func72 rfl (by decide +kernel) rfl (by simp [Try.ntmps72]) ?_
    simp only [Try.ntmps72]
    repeat' first
      | apply jA | apply jB | apply jC | apply jD | apply jE | apply jF | apply jG | apply jH | apply jI | apply jJ
      | refine W.draw cx_mixed (by decide +kernel) ?_
      | ((first | (apply jK cx_ok; decide) | (apply jL cx_ok; decide; decide) | apply jM cx_ok | (apply jN; rfl; decide) | (apply jO; rfl; decide; decide) | apply jR); (simp (disch := omega) only [push_cast, simprocAttr, hlF, natNe, zI, zG, zJ, zM, Bool.true_and, zO, beq_self_eq_true, zP] <;> rfl); all_goals try ((with_reducible intro hI); try first | (cases hI; done) | (simp only [INTS, zL] at hI; try first | (exfalso; omega) | (have hT : True := hI; clear hT hI))))
      | ((first | (apply jP; rfl; decide) | (apply jQ; rfl; decide; decide)); (simp (disch := omega) only [push_cast, simprocAttr, hlF, natNe, zI, zG, zJ, zM, Bool.true_and, zO, beq_self_eq_true, zP] <;> rfl))
      | ((first | (apply jV cx_ok; decide) | (apply jW cx_ok; decide; decide)); (iterate 2 (simp (disch := omega) only [push_cast, simprocAttr, hlF, natNe, zI, zG, zJ, zM, Bool.true_and, zO, beq_self_eq_true, zP] <;> rfl)); (with_reducible first | exact c33 | exact c67); try first | rfl | (simp (disch := omega) only [push_cast, simprocAttr, hlF, natNe, zI, zG, zJ, zM, Bool.true_and, zO, beq_self_eq_true, zP] <;> rfl))
      | ((first | apply jf | apply jg); (iterate 2 (try (simp (disch := omega) only [push_cast, simprocAttr, hlF, natNe, zI, zG, zJ, zM, Bool.true_and, zO, beq_self_eq_true, zP] <;> rfl))))

    all_goals (show _ = _; rfl)
  have h := true_go r x ts hc hp hl h60 h20 hs20
  cases hq : (List.range ts.length).all (QB r x ts) with
  | false => rw [hq] at h; exact .inl h
  | true => rw [hq] at h; exact .inr ⟨hc, hp, hl, rfl, h⟩
theorem law15_ok (r : Rec) (x : Run) (ts : List Int) : OKv cx 15 [.agg (eRec r), .agg (eRun x), lInt ts] (ab true) := by
  have csm := small_ok r
  have c20 := sanity_ok
  cases hsm : smallB r with
  | false =>
    rw [hsm] at csm
    refine OKat.of_body (rs := [6]) Try.func15 rfl (by decide +kernel) rfl (by simp [Try.ntmps15]) ?_
    simp only [Try.ntmps15]
    repeat' first
      | apply jA | apply jB | apply jC | apply jD | apply jE | apply jF | apply jG | apply jH | apply jI | apply jJ
      | refine W.draw cx_mixed (by decide +kernel) ?_
      | ((first | (apply jK cx_ok; decide) | (apply jL cx_ok; decide; decide) | apply jM cx_ok | (apply jN; rfl; decide) | (apply jO; rfl; decide; decide) | apply jR); (simp (disch := omega) only [push_cast, simprocAttr] <;> rfl); all_goals try ((with_reducible intro hI); try first | (cases hI; done) | (simp only [INTS, zL] at hI; try first | (exfalso; omega) | (have hT : True := hI; clear hT hI))))
      | ((first | (apply jV cx_ok; decide) | (apply jW cx_ok; decide; decide)); (iterate 2 (simp (disch := omega) only [push_cast, simprocAttr] <;> rfl)); (with_reducible first | exact csm | exact c20); try first | rfl | (simp (disch := omega) only [push_cast, simprocAttr] <;> rfl))
      | ((first | apply jf | apply jg); (iterate 2 (try (simp (disch := omega) only [push_cast, simprocAttr] <;> rfl))))

    all_goals (show _ = _; rfl)
  | true =>
    rw [hsm] at csm
    obtain ⟨q1, q2, q3⟩ : r.s.stops.length ≤ 12 ∧ r.strikes.length ≤ 20 ∧ r.sights.length ≤ 20 := by
      unfold smallB at hsm
      simp only [Bool.and_eq_true, decide_eq_true_eq] at hsm
      omega
    by_cases h60 : 60 < x.legs.length
    · have hl1 : (60 : Int) < (x.legs.length : Int) := by omega
      refine OKat.of_body (rs := [6]) Try.func15 rfl (by decide +kernel) rfl (by simp [Try.ntmps15]) ?_
      simp only [Try.ntmps15]
      repeat' first
        | apply jA | apply jB | apply jC | apply jD | apply jE | apply jF | apply jG | apply jH | apply jI | apply jJ
        | refine W.draw cx_mixed (by decide +kernel) ?_
        | ((first | (apply jK cx_ok; decide) | (apply jL cx_ok; decide; decide) | apply jM cx_ok | (apply jN; rfl; decide) | (apply jO; rfl; decide; decide) | apply jR); (simp (disch := omega) only [push_cast, simprocAttr, hl1, natNe, zI, zG, zJ, zM, Bool.true_and, zO, beq_self_eq_true, zP] <;> rfl); all_goals try ((with_reducible intro hI); try first | (cases hI; done) | (simp only [INTS, zL] at hI; try first | (exfalso; omega) | (have hT : True := hI; clear hT hI))))
        | ((first | (apply jV cx_ok; decide) | (apply jW cx_ok; decide; decide)); (iterate 2 (simp (disch := omega) only [push_cast, simprocAttr, hl1, natNe, zI, zG, zJ, zM, Bool.true_and, zO, beq_self_eq_true, zP] <;> rfl)); (with_reducible first | exact csm | exact c20); try first | rfl | (simp (disch := omega) only [push_cast, simprocAttr, hl1, natNe, zI, zG, zJ, zM, Bool.true_and, zO, beq_self_eq_true, zP] <;> rfl))
        | ((first | apply jf | apply jg); (iterate 2 (try (simp (disch := omega) only [push_cast, simprocAttr, hl1, natNe, zI, zG, zJ, zM, Bool.true_and, zO, beq_self_eq_true, zP] <;> rfl))))

      all_goals (show _ = _; rfl)
    have hl1 : ¬ (60 : Int) < (x.legs.length : Int) := by omega
    by_cases h20 : 20 < ts.length
    · have hl2 : (20 : Int) < (ts.length : Int) := by omega
      refine OKat.of_body (rs := [6]) Try.func15 rfl (by decide +kernel) rfl (by simp [Try.ntmps15]) ?_
      simp only [Try.ntmps15]
      repeat' first
        | apply jA | apply jB | apply jC | apply jD | apply jE | apply jF | apply jG | apply jH | apply jI | apply jJ
        | refine W.draw cx_mixed (by decide +kernel) ?_
        | ((first | (apply jK cx_ok; decide) | (apply jL cx_ok; decide; decide) | apply jM cx_ok | (apply jN; rfl; decide) | (apply jO; rfl; decide; decide) | apply jR); (simp (disch := omega) only [push_cast, simprocAttr, hl1, hl2, natNe, zI, zG, zJ, zM, Bool.true_and, zO, beq_self_eq_true, zP] <;> rfl); all_goals try ((with_reducible intro hI); try first | (cases hI; done) | (simp only [INTS, zL] at hI; try first | (exfalso; omega) | (have hT : True := hI; clear hT hI))))
        | ((first | (apply jV cx_ok; decide) | (apply jW cx_ok; decide; decide)); (iterate 2 (simp (disch := omega) only [push_cast, simprocAttr, hl1, hl2, natNe, zI, zG, zJ, zM, Bool.true_and, zO, beq_self_eq_true, zP] <;> rfl)); (with_reducible first | exact csm | exact c20); try first | rfl | (simp (disch := omega) only [push_cast, simprocAttr, hl1, hl2, natNe, zI, zG, zJ, zM, Bool.true_and, zO, beq_self_eq_true, zP] <;> rfl))
        | ((first | apply jf | apply jg); (iterate 2 (try (simp (disch := omega) only [push_cast, simprocAttr, hl1, hl2, natNe, zI, zG, zJ, zM, Bool.true_and, zO, beq_self_eq_true, zP] <;> rfl))))

      all_goals (show _ = _; rfl)
    have hl2 : ¬ (20 : Int) < (ts.length : Int) := by omega
    rcases true_cases r x ts (by omega) q2 q3 (by omega) with c72 | ⟨hc, hp, hl, hq, c72⟩
    · skip
      refine OKat.of_body (rs := [6]) Try.func15 rfl (by decide +kernel) rfl (by simp [Try.ntmps15]) ?_
      simp only [Try.ntmps15]
      repeat' first
        | apply jA | apply jB | apply jC | apply jD | apply jE | apply jF | apply jG | apply jH | apply jI | apply jJ
        | refine W.draw cx_mixed (by decide +kernel) ?_
        | ((first | (apply jK cx_ok; decide) | (apply jL cx_ok; decide; decide) | apply jM cx_ok | (apply jN; rfl; decide) | (apply jO; rfl; decide; decide) | apply jR); (simp (disch := omega) only [push_cast, simprocAttr, hl1, hl2, natNe, zI, zG, zJ, zM, Bool.true_and, zO, beq_self_eq_true, zP] <;> rfl); all_goals try ((with_reducible intro hI); try first | (cases hI; done) | (simp only [INTS, zL] at hI; try first | (exfalso; omega) | (have hT : True := hI; clear hT hI))))
        | ((first | (apply jV cx_ok; decide) | (apply jW cx_ok; decide; decide)); (iterate 2 (simp (disch := omega) only [push_cast, simprocAttr, hl1, hl2, natNe, zI, zG, zJ, zM, Bool.true_and, zO, beq_self_eq_true, zP] <;> rfl)); (with_reducible first | exact csm | exact c20 | exact c72); try first | rfl | (simp (disch := omega) only [push_cast, simprocAttr, hl1, hl2, natNe, zI, zG, zJ, zM, Bool.true_and, zO, beq_self_eq_true, zP] <;> rfl))
        | ((first | apply jf | apply jg); (iterate 2 (try (simp (disch := omega) only [push_cast, simprocAttr, hl1, hl2, natNe, zI, zG, zJ, zM, Bool.true_and, zO, beq_self_eq_true, zP] <;> rfl))))

      all_goals (show _ = _; rfl)
    obtain ⟨hx, f, hf, f0, f1, f2, f3⟩ := true_sat hc hp hl hq
    have hv := checkE_V hc
    have hqc : consP r [] = true := (cons_sat hv (by decide) nomore).2 ⟨f, hf⟩
    have hnl := nodesR_len r []
    have near : ∀ k, k < (nodesR r []).length → -(dst r k 0) ≤ f k ∧ f k ≤ dst r 0 k := fun k hk => by
      have a := (dst_spec hc hqc (show 0 < (nodesR r []).length by omega) hk).2.1 f hf
      have b := (dst_spec hc hqc hk (show 0 < (nodesR r []).length by omega)).2.1 f hf
      omega
    have c34 := Spans_ok r
    rw [show spansQ r = (spansP r, 0) by unfold spansQ; rw [if_pos hc, hqc, if_pos rfl]] at c34
    have c36 := Inserted_ok r
    have c60 := Removed_ok r
    obtain ⟨I1, hI1⟩ : ∃ z, spanF (nodesR r []) (linksR r []) 0 1 = z := ⟨_, rfl⟩
    obtain ⟨I2, hI2⟩ : ∃ z, spanF (nodesR r []) (linksR r []) 0 2 = z := ⟨_, rfl⟩
    rw [show eventP r 1 = (I1, 0) by unfold eventP; rw [if_pos hc, hqc, if_pos rfl, hI1]] at c36
    rw [show eventP r 2 = (I2, 0) by unfold eventP; rw [if_pos hc, hqc, if_pos rfl, hI2]] at c60
    have n1 := near 1 (by omega)
    have n2 := near 2 (by omega)
    have j1 : I1.lo ≤ x.start ∧ x.start ≤ I1.hi := by rw [← hI1, ← f1]; exact n1
    have j2 : I2.lo ≤ x.start + sumT x.legs ∧ x.start + sumT x.legs ≤ I2.hi := by rw [← hI2, ← f2]; exact n2
    have gt : ∀ {j : Nat}, j < ts.length → ∃ t, ts[j]? = some t ∧ ts.getD j 0 = t := fun {j} hj => ⟨ts[j], List.getElem?_eq_getElem hj, by rw [List.getD_eq_getElem?_getD, List.getElem?_eq_getElem hj]; rfl⟩
    have c53 := Fits_ok r ts (by omega)
    rw [fits_of hc hl (fun j hj => by
      obtain ⟨t, h1, h2⟩ := gt hj
      rw [h2]; exact (f3 j t h1).2) hf (fun j hj => by
      obtain ⟨t, h1, h2⟩ := gt hj
      rw [h2, (f3 j t h1).1, f0]; omega)] at c53
    have c27 := Clash_none r hc hqc
    have hA : (spansP r).length = ts.length := by unfold spansP; simp [hl]
    have e2 : ∀ k, k < ts.length → ∃ A t, (spansP r)[k]? = some A ∧ ts[k]? = some t ∧ A.lo ≤ t ∧ t ≤ A.hi := fun k hk => by
      obtain ⟨t, h1, h2⟩ := gt hk
      refine ⟨_, t, spansP_get (by omega), h1, ?_⟩
      have := near (3 + k) (by omega)
      rw [(f3 k t h1).1] at this
      exact this
    obtain ⟨AS, hAS⟩ : ∃ z, spansP r = z := ⟨_, rfl⟩
    rw [hAS] at c34 hA e2
    dsimp only at c34 c36 c60 c53
    have hAI : (AS.length : Int) = (ts.length : Int) := by omega
    have hAT : ((AS.length : Int) = (ts.length : Int)) = True := eq_true hAI
    obtain ⟨b1, b2⟩ := hx.start
    have hlg := hx.legs
    have hE9 := hx.time
    obtain ⟨EE, hEE⟩ : ∃ z, x.start + sumT x.legs = z := ⟨_, rfl⟩
    rw [hEE] at j2
    obtain ⟨j11, j12⟩ := j1
    obtain ⟨j21, j22⟩ := j2
    clear n1 n2 hI1 hI2 near hf f0 f1 f2 f3 hE9
    refine OKat.of_body (rs := [6]) Try.func15 rfl (by decide +kernel) rfl (by simp [Try.ntmps15]) ?_
    simp only [Try.ntmps15]
    repeat' first
      | apply jA | apply jB | apply jC | apply jD | apply jE | apply jF | apply jG | apply jH | apply jI | apply jJ
      | refine W.draw cx_mixed (by decide +kernel) ?_
      | ((first | (apply jK cx_ok; decide) | (apply jL cx_ok; decide; decide) | apply jM cx_ok | (apply jN; rfl; decide) | (apply jO; rfl; decide; decide) | apply jR); (simp (maxSteps := 1000000) (disch := omega) only [push_cast, simprocAttr, hl1, hl2, hAT, natNe, List.mem_cons, List.not_mem_nil, TyD.isAgg, Nat.add_assoc, Bool.false_eq_true, Bool.true_and, Bool.and_true, beq_self_eq_true, Bool.and_self] <;> rfl); all_goals try ((with_reducible intro hI); try first | (cases hI; done) | (simp only [INTS, zL] at hI; try first | (exfalso; omega) | (have hT : True := hI; clear hT hI))))
      | ((first | (apply jV cx_ok; decide) | (apply jW cx_ok; decide; decide)); (iterate 2 (simp (maxSteps := 1000000) (disch := omega) only [push_cast, simprocAttr, hl1, hl2, hAT, natNe, List.mem_cons, List.not_mem_nil, TyD.isAgg, Nat.add_assoc, Bool.false_eq_true, Bool.true_and, Bool.and_true, beq_self_eq_true, Bool.and_self] <;> rfl)); (with_reducible first | exact csm | exact c20 | exact c72 | exact c34 | exact c36 | exact c60 | exact c53 | exact c27); try first | rfl | (simp (maxSteps := 1000000) (disch := omega) only [push_cast, simprocAttr, hl1, hl2, hAT, natNe, List.mem_cons, List.not_mem_nil, TyD.isAgg, Nat.add_assoc, Bool.false_eq_true, Bool.true_and, Bool.and_true, beq_self_eq_true, Bool.and_self] <;> rfl))
      | ((first | apply jf | apply jg); (iterate 2 (try (simp (maxSteps := 1000000) (disch := omega) only [push_cast, simprocAttr, hl1, hl2, hAT, natNe, List.mem_cons, List.not_mem_nil, TyD.isAgg, Nat.add_assoc, Bool.false_eq_true, Bool.true_and, Bool.and_true, beq_self_eq_true, Bool.and_self] <;> rfl))))

    refine AW.loop (fun n s => ∃ (k : Nat), n = ts.length - k ∧ (k ≤ ts.length) ∧ 4 ≤ s.nx ∧ s.tm 2 = lInt ts ∧ s.tm 3 = .ptr 0 0 0 1 ∧ s.tm 4 = .ptr 1 0 0 1 ∧ s.tm 9 = .ptr 2 0 0 1 ∧ s.tm 11 = .ptr 3 0 0 1 ∧ s.tm 7 = lSpan AS ∧ s.tm 18 = ai k ∧ Pg.rowAt s.H (0) = some ({ k := 14, es := [eRec r], ty := 30 }) ∧ Pg.rowAt s.H (1) = some ({ k := 3, es := [eRun x], ty := 100 }) ∧ Pg.rowAt s.H (2) = some ({ k := 2, es := [eSpan I1], ty := 23 }) ∧ Pg.rowAt s.H (3) = some ({ k := 2, es := [eSpan I2], ty := 23 })) (ts.length) ⟨0, rfl, (Nat.zero_le _), ?_, ?_, ?_, ?_, ?_, ?_, ?_, ?_, ?_, ?_, ?_, ?_⟩ ?_
    iterate 12 (first | (simp (disch := omega) only [push_cast, simprocAttr, natNe, zI, zG, zJ, zM, Bool.true_and, zO, beq_self_eq_true, zP] <;> first | rfl | omega) | omega)
    rintro n0 s0 ⟨k0, hn0, hp00, hnl0, hS0⟩
    have hZ0 : (0 : Nat) ≠ s0.nx ∧ s0.nx ≠ (0 : Nat) ∧ (1 : Nat) ≠ s0.nx ∧ s0.nx ≠ (1 : Nat) ∧ (2 : Nat) ≠ s0.nx ∧ s0.nx ≠ (2 : Nat) ∧ (3 : Nat) ≠ s0.nx ∧ s0.nx ≠ (3 : Nat) := by omega
    by_cases hi : k0 < ts.length
    · have hiT : (k0 : Int) < (ts.length : Int) := by omega
      have hiA : (k0 : Int) < (AS.length : Int) := by omega
      obtain ⟨A1, t1, y1, y2, y3, y4⟩ := e2 k0 hi
      have z3 : ¬ t1 < A1.lo := by omega
      have z4 : ¬ A1.hi < t1 := by omega
      have u1 : (ts.map eInt)[k0]? = some (eInt t1) := by rw [List.getElem?_map, y2]; rfl
      have u2 : (ts.map eInt).getD k0 [] = eInt t1 := by rw [List.getD_eq_getElem?_getD, u1]; rfl
      have v1 : (AS.map eSpan)[k0]? = some (eSpan A1) := by rw [List.getElem?_map, y1]; rfl
      have v2 : (AS.map eSpan).getD k0 [] = eSpan A1 := by rw [List.getD_eq_getElem?_getD, v1]; rfl
      repeat' first
        | apply jA | apply jB | apply jC | apply jD | apply jE | apply jF | apply jG | apply jH | apply jI | apply jJ
        | refine W.draw cx_mixed (by decide +kernel) ?_
        | ((first | (apply jK cx_ok; decide) | (apply jL cx_ok; decide; decide) | apply jM cx_ok | (apply jN; rfl; decide) | (apply jO; rfl; decide; decide) | apply jR); (simp (disch := omega) only [push_cast, simprocAttr, hS0, hZ0, hiT, hiA, u1, u2, v1, v2, z3, z4, natNe, zI, zG, zJ, zM, Bool.true_and, zO, beq_self_eq_true, zP] <;> rfl); all_goals try ((with_reducible intro hI); try first | (cases hI; done) | (simp only [INTS, zL] at hI; try first | (exfalso; omega) | (have hT : True := hI; clear hT hI))))
        | ((first | apply jf | apply jg); (iterate 2 (try (simp (disch := omega) only [push_cast, simprocAttr, hS0, hZ0, hiT, hiA, u1, u2, v1, v2, z3, z4, natNe, zI, zG, zJ, zM, Bool.true_and, zO, beq_self_eq_true, zP] <;> rfl))))

      all_goals (refine ⟨ts.length - (k0 + 1), ?_, k0 + 1, rfl, (by omega), ?_, ?_, ?_, ?_, ?_, ?_, ?_, ?_, ?_, ?_, ?_, ?_⟩; (omega); all_goals first | (simp (disch := omega) only [push_cast, simprocAttr, hS0, hZ0, natNe, zI, zG, zJ, zM, Bool.true_and, zO, beq_self_eq_true, zP, hiT, hiA, z3, z4, u1, u2, v1, v2] <;> first | rfl | omega) | omega)
    have hiA : ¬ (k0 : Int) < (AS.length : Int) := by omega
    repeat' first
      | apply jA | apply jB | apply jC | apply jD | apply jE | apply jF | apply jG | apply jH | apply jI | apply jJ
      | refine W.draw cx_mixed (by decide +kernel) ?_
      | ((first | (apply jK cx_ok; decide) | (apply jL cx_ok; decide; decide) | apply jM cx_ok | (apply jN; rfl; decide) | (apply jO; rfl; decide; decide) | apply jR); (simp (disch := omega) only [push_cast, simprocAttr, hS0, hZ0, hiA, natNe, zI, zG, zJ, zM, Bool.true_and, zO, beq_self_eq_true, zP] <;> rfl); all_goals try ((with_reducible intro hI); try first | (cases hI; done) | (simp only [INTS, zL] at hI; try first | (exfalso; omega) | (have hT : True := hI; clear hT hI))))
      | ((first | apply jf | apply jg); (iterate 2 (try (simp (disch := omega) only [push_cast, simprocAttr, hS0, hZ0, hiA, natNe, zI, zG, zJ, zM, Bool.true_and, zO, beq_self_eq_true, zP] <;> rfl))))

    refine AW.loop (fun n s => ∃ (k : Nat) (T : Int) (rest : List Leg), n = rest.length ∧ (x.legs.drop k = rest) ∧ (T + sumT rest = EE) ∧ (0 ≤ T ∧ T ≤ 1073741823 + 36000 * (k : Int)) ∧ 4 ≤ s.nx ∧ s.tm 2 = lInt ts ∧ s.tm 3 = .ptr 0 0 0 1 ∧ s.tm 4 = .ptr 1 0 0 1 ∧ s.tm 9 = .ptr 2 0 0 1 ∧ s.tm 11 = .ptr 3 0 0 1 ∧ s.tm 19 = ai T ∧ s.tm 20 = ai k ∧ Pg.rowAt s.H (0) = some ({ k := 14, es := [eRec r], ty := 30 }) ∧ Pg.rowAt s.H (1) = some ({ k := 3, es := [eRun x], ty := 100 }) ∧ Pg.rowAt s.H (2) = some ({ k := 2, es := [eSpan I1], ty := 23 }) ∧ Pg.rowAt s.H (3) = some ({ k := 2, es := [eSpan I2], ty := 23 })) (x.legs.length) ⟨0, x.start, x.legs, rfl, rfl, hEE, ⟨b1, (by omega)⟩, ?_, ?_, ?_, ?_, ?_, ?_, ?_, ?_, ?_, ?_, ?_, ?_⟩ ?_
    iterate 12 (first | (simp (disch := omega) only [push_cast, simprocAttr, hS0, hZ0, natNe, zI, zG, zJ, zM, Bool.true_and, zO, beq_self_eq_true, zP, hiA] <;> first | rfl | omega) | omega)
    rintro n2 s2 ⟨k2, T2, rest2, hn2, hp02, hp12, hp22, hnl2, hS2⟩
    have hZ2 : (0 : Nat) ≠ s2.nx ∧ s2.nx ≠ (0 : Nat) ∧ (1 : Nat) ≠ s2.nx ∧ s2.nx ≠ (1 : Nat) ∧ (2 : Nat) ≠ s2.nx ∧ s2.nx ≠ (2 : Nat) ∧ (3 : Nat) ≠ s2.nx ∧ s2.nx ≠ (3 : Nat) := by omega
    rcases rest2 with _ | ⟨y, rest2⟩
    · have hk2 := drop_nil hp02
      have hT2 : T2 = EE := by rw [← hp12]; simp [sumT]
      subst hT2
      repeat' first
        | apply jA | apply jB | apply jC | apply jD | apply jE | apply jF | apply jG | apply jH | apply jI | apply jJ
        | refine W.draw cx_mixed (by decide +kernel) ?_
        | ((first | (apply jK cx_ok; decide) | (apply jL cx_ok; decide; decide) | apply jM cx_ok | (apply jN; rfl; decide) | (apply jO; rfl; decide; decide) | apply jR); (simp (maxSteps := 1000000) (disch := omega) only [push_cast, simprocAttr, hS2, hZ2, hk2, j11, j12, j21, j22, natNe, List.mem_cons, List.not_mem_nil, TyD.isAgg, Nat.add_assoc, Bool.false_eq_true, Bool.true_and, Bool.and_true, beq_self_eq_true, Bool.and_self] <;> rfl); all_goals try ((with_reducible intro hI); try first | (cases hI; done) | (simp only [INTS, zL] at hI; try first | (exfalso; omega) | (have hT : True := hI; clear hT hI))))
        | ((first | (apply jV cx_ok; decide) | (apply jW cx_ok; decide; decide)); (iterate 2 (simp (maxSteps := 1000000) (disch := omega) only [push_cast, simprocAttr, hS2, hZ2, hk2, j11, j12, j21, j22, natNe, List.mem_cons, List.not_mem_nil, TyD.isAgg, Nat.add_assoc, Bool.false_eq_true, Bool.true_and, Bool.and_true, beq_self_eq_true, Bool.and_self] <;> rfl)); (with_reducible first | exact c20); try first | rfl | (simp (maxSteps := 1000000) (disch := omega) only [push_cast, simprocAttr, hS2, hZ2, hk2, j11, j12, j21, j22, natNe, List.mem_cons, List.not_mem_nil, TyD.isAgg, Nat.add_assoc, Bool.false_eq_true, Bool.true_and, Bool.and_true, beq_self_eq_true, Bool.and_self] <;> rfl))
        | ((first | apply jf | apply jg); (iterate 2 (try (simp (maxSteps := 1000000) (disch := omega) only [push_cast, simprocAttr, hS2, hZ2, hk2, j11, j12, j21, j22, natNe, List.mem_cons, List.not_mem_nil, TyD.isAgg, Nat.add_assoc, Bool.false_eq_true, Bool.true_and, Bool.and_true, beq_self_eq_true, Bool.and_self] <;> rfl))))

      all_goals (show _ = _; rfl)
    · obtain ⟨hk2, hg2, hd2, hll2, hm2, hx2⟩ := drop_cons hp02 eLeg []
      have hy := legB_iff.1 (hlg y hm2)
      obtain ⟨y1, y2, y3⟩ := hy
      obtain ⟨p1, p2⟩ := hp22
      simp only [sumT] at hp12
      repeat' first
        | apply jA | apply jB | apply jC | apply jD | apply jE | apply jF | apply jG | apply jH | apply jI | apply jJ
        | refine W.draw cx_mixed (by decide +kernel) ?_
        | ((first | (apply jK cx_ok; decide) | (apply jL cx_ok; decide; decide) | apply jM cx_ok | (apply jN; rfl; decide) | (apply jO; rfl; decide; decide) | apply jR); (simp (disch := omega) only [push_cast, simprocAttr, hS2, hZ2, hk2, hg2, hx2, natNe, zI, zG, zJ, zM, Bool.true_and, zO, beq_self_eq_true, zP] <;> rfl); all_goals try ((with_reducible intro hI); try first | (cases hI; done) | (simp only [INTS, zL] at hI; try first | (exfalso; omega) | (have hT : True := hI; clear hT hI))))
        | ((first | apply jf | apply jg); (iterate 2 (try (simp (disch := omega) only [push_cast, simprocAttr, hS2, hZ2, hk2, hg2, hx2, natNe, zI, zG, zJ, zM, Bool.true_and, zO, beq_self_eq_true, zP] <;> rfl))))

      all_goals (refine ⟨rest2.length, ?_, k2 + 1, T2 + y.secs, rest2, rfl, hd2, (by omega), ⟨(by omega), (by omega)⟩, ?_, ?_, ?_, ?_, ?_, ?_, ?_, ?_, ?_, ?_, ?_, ?_⟩; ((simp only [zD] at *; omega)); all_goals first | (simp (disch := omega) only [push_cast, simprocAttr, hS2, hZ2, natNe, zI, zG, zJ, zM, Bool.true_and, zO, beq_self_eq_true, zP, hk2, hg2, hx2] <;> first | rfl | omega) | omega)
end Go.Proofs.Ks
