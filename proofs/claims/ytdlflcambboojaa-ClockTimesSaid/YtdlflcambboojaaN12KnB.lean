/-
  Contracts of functions, proved by going through their code. No conditions.
-/
import Derived.Test.YtdlflcambboojaaMaa
import Derived.Test.YtdlflcambboojaaMba
import Derived.Test.YtdlflcambboojaaN12KnA
import Derived.Test.YtdlflcambboojaaN12KtZ
import Derived.Test.YtdlflcambboojaaN12KlT
set_option linter.unusedVariables false
set_option linter.unusedSimpArgs false
set_option maxHeartbeats 8000000
set_option maxRecDepth 10000
namespace Go.Proofs.Ks
open Go Go.Pg Go.Proofs
theorem RTimes_ok (r : Rec) (hv : r.V) (ts : List Int) (hlt : ts.length ≤ 1099511627776) : OKv cx 58 [.agg (eRec r), lInt ts] (ab (timesB (nodesR r []).length (linksR r []) ts)) := by
  obtain ⟨h1, h2, h3, h4, h5⟩ := links_facts (more := []) hv (by decide) nomore
  have c43 := rLinks_ok r hv
  have c46 := rNodes_ok r hv
  have hnl := nodesR_len r []
  obtain ⟨N, hN⟩ : ∃ z, nodesR r [] = z := ⟨_, rfl⟩
  obtain ⟨LK, hLK⟩ : ∃ z, linksR r [] = z := ⟨_, rfl⟩
  rw [hN] at h1 h3 c46 hnl ⊢
  rw [hLK] at h2 h3 h4 c43 ⊢
  by_cases hl : ts.length = N.length
  rotate_left
  · have hlF : ((ts.length : Int) = (N.length : Int)) = False := eq_false (by omega)
    rw [show timesB N.length LK ts = false by unfold timesB; rw [decide_eq_false hl]; simp]
    refine OKat.of_body (rs := [4]) Try.func58 rfl (by decide +kernel) rfl (by simp [Try.ntmps58]) ?_
    simp only [Try.ntmps58]
    repeat' first
      | apply jA | apply jB | apply jC | apply jD | apply jE | apply jF | apply jG | apply jH | apply jI | apply jJ
      | refine W.draw cx_mixed (by decide +kernel) ?_
      | ((first | (apply jK cx_ok; decide) | (apply jL cx_ok; decide; decide) | (apply jN; rfl; decide) | (apply jO; rfl; decide; decide) | apply jR); (simp (disch := omega) only [push_cast, simprocAttr, hlF, natNe, zI, zG, zJ, zM, Bool.true_and, zO, beq_self_eq_true, zP, Bool.not_true, zW, zC] <;> rfl); all_goals try ((with_reducible intro hI); try first | (cases hI; done) | (simp only [INTS, zL] at hI; try first | (exfalso; omega) | (have hT : True := hI; clear hT hI))))
      | ((first | (apply jV cx_ok; decide) | (apply jW cx_ok; decide; decide)); (iterate 2 (simp (disch := omega) only [push_cast, simprocAttr, hlF, natNe, zI, zG, zJ, zM, Bool.true_and, zO, beq_self_eq_true, zP, Bool.not_true, zW, zC] <;> rfl)); (with_reducible first | exact c43 | exact c46); try first | rfl | (simp (disch := omega) only [push_cast, simprocAttr, hlF, natNe, zI, zG, zJ, zM, Bool.true_and, zO, beq_self_eq_true, zP, Bool.not_true, zW, zC] <;> rfl))
      | ((first | apply jf | apply jg); (iterate 2 (try (simp (disch := omega) only [push_cast, simprocAttr, hlF, natNe, zI, zG, zJ, zM, Bool.true_and, zO, beq_self_eq_true, zP, Bool.not_true, zW, zC] <;> rfl))))

    all_goals (show _ = _; rfl)
  rcases ts with _ | ⟨c, ts⟩
  · exfalso; simp only [zC] at hl; omega
  have gl0 : ((c :: ts).map eInt)[0]? = some (eInt c) := rfl
  have gd0 : ((c :: ts).map eInt).getD 0 [] = eInt c := rfl
  have hhd : (c :: ts).headD 1 = c := rfl
  obtain ⟨TS, hTS⟩ : ∃ z, c :: ts = z := ⟨_, rfl⟩
  rw [hTS] at hl hlt gl0 gd0 hhd ⊢
  have hlT : ((TS.length : Int) = (N.length : Int)) = True := eq_true (by omega)
  have hp0 : (0 : Int) < (TS.length : Int) := by omega
  obtain ⟨B, hB⟩ : ∃ z, (TS.all okN && LK.all (lkB TS)) = z := ⟨_, rfl⟩
  have hT : timesB N.length LK TS = (B && decide (c = 0)) := by unfold timesB; rw [decide_eq_true hl, hhd, Bool.true_and, hB, Bool.and_comm]
  rw [hT]
  clear hT
  refine OKat.of_body (rs := [4]) Try.func58 rfl (by decide +kernel) rfl (by simp [Try.ntmps58]) ?_
  simp only [Try.ntmps58]
  repeat' first
    | apply jA | apply jB | apply jC | apply jD | apply jE | apply jF | apply jG | apply jH | apply jI | apply jJ
    | refine W.draw cx_mixed (by decide +kernel) ?_
    | ((first | (apply jK cx_ok; decide) | (apply jL cx_ok; decide; decide) | (apply jN; rfl; decide) | (apply jO; rfl; decide; decide) | apply jR); (simp (disch := omega) only [push_cast, simprocAttr, hlT, natNe, zI, zG, zJ, zM, Bool.true_and, zO, beq_self_eq_true, zP, Bool.not_true, zW, zC] <;> rfl); all_goals try ((with_reducible intro hI); try first | (cases hI; done) | (simp only [INTS, zL] at hI; try first | (exfalso; omega) | (have hT : True := hI; clear hT hI))))
    | ((first | (apply jV cx_ok; decide) | (apply jW cx_ok; decide; decide)); (iterate 2 (simp (disch := omega) only [push_cast, simprocAttr, hlT, natNe, zI, zG, zJ, zM, Bool.true_and, zO, beq_self_eq_true, zP, Bool.not_true, zW, zC] <;> rfl)); (with_reducible first | exact c43 | exact c46); try first | rfl | (simp (disch := omega) only [push_cast, simprocAttr, hlT, natNe, zI, zG, zJ, zM, Bool.true_and, zO, beq_self_eq_true, zP, Bool.not_true, zW, zC] <;> rfl))
    | ((first | apply jf | apply jg); (iterate 2 (try (simp (disch := omega) only [push_cast, simprocAttr, hlT, natNe, zI, zG, zJ, zM, Bool.true_and, zO, beq_self_eq_true, zP, Bool.not_true, zW, zC] <;> rfl))))

  refine AW.loop (fun n s => ∃ (k : Nat) (rest : List Int), n = rest.length ∧ (TS.drop k = rest) ∧ ((rest.all okN && LK.all (lkB TS)) = B) ∧ (∀ t ∈ TS.take k, okN t = true) ∧ s.tm 1 = lInt TS ∧ s.tm 5 = lLink LK ∧ s.tm 6 = ai k) (TS.length) ⟨0, TS, rfl, rfl, hB, (fun t h => by simp at h), ?_, ?_, ?_⟩ ?_
  iterate 3 (first | (simp (disch := omega) only [push_cast, simprocAttr, natNe, zI, zG, zJ, zM, Bool.true_and, zO, beq_self_eq_true, zP, Bool.not_true, zW, zC] <;> first | rfl | omega) | omega)
  rintro n0 s0 ⟨k0, rest0, hn0, hp00, hp10, hp20, hS0⟩
  rcases rest0 with _ | ⟨x, rest0⟩
  rotate_left
  · obtain ⟨hk, hg, hd', hl', hm', hx⟩ := drop_cons hp00 eInt []
    rw [List.all_cons, Bool.and_assoc] at hp10
    cases hx0 : okN x with
    | true =>
      have hx1 := hx0
      unfold okN at hx1
      simp only [Bool.and_eq_true, decide_eq_true_eq] at hx1
      obtain ⟨x1, x2⟩ := hx1
      rw [hx0, Bool.true_and] at hp10
      repeat' first
        | apply jA | apply jB | apply jC | apply jD | apply jE | apply jF | apply jG | apply jH | apply jI | apply jJ
        | refine W.draw cx_mixed (by decide +kernel) ?_
        | ((first | (apply jK cx_ok; decide) | (apply jL cx_ok; decide; decide) | (apply jN; rfl; decide) | (apply jO; rfl; decide; decide) | apply jR); (simp (disch := omega) only [push_cast, simprocAttr, hS0, hk, hg, hx, x1, x2] <;> rfl); all_goals try ((with_reducible intro hI); try first | (cases hI; done) | (simp only [INTS, zL] at hI; try first | (exfalso; omega) | (have hT : True := hI; clear hT hI))))
        | ((first | apply jf | apply jg); (iterate 2 (try (simp (disch := omega) only [push_cast, simprocAttr, hS0, hk, hg, hx, x1, x2] <;> rfl))))

      all_goals (refine ⟨rest0.length, ?_, k0 + 1, rest0, rfl, hd', hp10, (fun t ht => by rw [take_snoc hp00] at ht; exact (List.mem_append.1 ht).elim (hp20 t) fun h => by rw [List.mem_singleton.1 h]; exact hx0), ?_, ?_, ?_⟩; ((simp only [zD] at *; omega)); all_goals first | (simp (disch := omega) only [push_cast, simprocAttr, hS0, hk, hg, hx, x1, x2] <;> first | rfl | omega) | omega)
    | false =>
      have hx1 : ¬ (-1073741823 ≤ x ∧ x ≤ 2147483646) := fun h => by unfold okN at hx0; simp [h.1, h.2] at hx0
      rw [hx0, Bool.false_and] at hp10
      subst hp10
      rw [Bool.false_and]
      repeat' first
        | apply jA | apply jB | apply jC | apply jD | apply jE | apply jF | apply jG | apply jH | apply jI | apply jJ
        | refine W.draw cx_mixed (by decide +kernel) ?_
        | ((first | (apply jK cx_ok; decide) | (apply jL cx_ok; decide; decide) | (apply jN; rfl; decide) | (apply jO; rfl; decide; decide) | apply jR); (simp (disch := omega) only [push_cast, simprocAttr, hS0, hk, hg, hx] <;> rfl); all_goals try ((with_reducible intro hI); try first | (cases hI; done) | (simp only [INTS, zL] at hI; try first | (exfalso; omega) | (have hT : True := hI; clear hT hI))))
        | ((first | apply jf | apply jg); (iterate 2 (try (simp (disch := omega) only [push_cast, simprocAttr, hS0, hk, hg, hx] <;> rfl))))

      all_goals first
        | (exfalso; omega)
        | (show _ = _; rfl)
  have hk := drop_nil hp00
  rw [List.take_of_length_le (List.drop_eq_nil_iff.1 hp00)] at hp20
  rw [List.all_nil, Bool.true_and] at hp10
  repeat' first
    | apply jA | apply jB | apply jC | apply jD | apply jE | apply jF | apply jG | apply jH | apply jI | apply jJ
    | refine W.draw cx_mixed (by decide +kernel) ?_
    | ((first | (apply jK cx_ok; decide) | (apply jL cx_ok; decide; decide) | (apply jN; rfl; decide) | (apply jO; rfl; decide; decide) | apply jR); (simp (disch := omega) only [push_cast, simprocAttr, hS0, hk] <;> rfl); all_goals try ((with_reducible intro hI); try first | (cases hI; done) | (simp only [INTS, zL] at hI; try first | (exfalso; omega) | (have hT : True := hI; clear hT hI))))
    | ((first | apply jf | apply jg); (iterate 2 (try (simp (disch := omega) only [push_cast, simprocAttr, hS0, hk] <;> rfl))))

  refine AW.loop (fun n s => ∃ (k : Nat) (rest : List Lk), n = rest.length ∧ (LK.drop k = rest) ∧ (rest.all (lkB TS) = B) ∧ s.tm 1 = lInt TS ∧ s.tm 5 = lLink LK ∧ s.tm 7 = ai k) (LK.length) ⟨0, LK, rfl, rfl, hp10, ?_, ?_, ?_⟩ ?_
  iterate 3 (first | (simp (disch := omega) only [push_cast, simprocAttr, hS0, hk] <;> first | rfl | omega) | omega)
  rintro n2 s2 ⟨k2, rest2, hn2, hp02, hp12, hS2⟩
  rcases rest2 with _ | ⟨x, rest2⟩
  · have hk2 := drop_nil hp02
    rw [List.all_nil] at hp12
    subst hp12
    rw [Bool.true_and]
    by_cases q : c = 0
    · have hq : (c == 0) = true := by rw [q]; rfl
      rw [decide_eq_true q]
      repeat' first
        | apply jA | apply jB | apply jC | apply jD | apply jE | apply jF | apply jG | apply jH | apply jI | apply jJ
        | refine W.draw cx_mixed (by decide +kernel) ?_
        | ((first | (apply jK cx_ok; decide) | (apply jL cx_ok; decide; decide) | (apply jN; rfl; decide) | (apply jO; rfl; decide; decide) | apply jR); (simp (disch := omega) only [push_cast, simprocAttr, hS2, hk2, gl0, gd0, hp0, hq] <;> rfl); all_goals try ((with_reducible intro hI); try first | (cases hI; done) | (simp only [INTS, zL] at hI; try first | (exfalso; omega) | (have hT : True := hI; clear hT hI))))
        | ((first | apply jf | apply jg); (iterate 2 (try (simp (disch := omega) only [push_cast, simprocAttr, hS2, hk2, gl0, gd0, hp0, hq] <;> rfl))))

      all_goals (show _ = _; rfl)
    · have hq : (c == 0) = false := beq_false_of_ne q
      rw [decide_eq_false q]
      repeat' first
        | apply jA | apply jB | apply jC | apply jD | apply jE | apply jF | apply jG | apply jH | apply jI | apply jJ
        | refine W.draw cx_mixed (by decide +kernel) ?_
        | ((first | (apply jK cx_ok; decide) | (apply jL cx_ok; decide; decide) | (apply jN; rfl; decide) | (apply jO; rfl; decide; decide) | apply jR); (simp (disch := omega) only [push_cast, simprocAttr, hS2, hk2, gl0, gd0, hp0, hq] <;> rfl); all_goals try ((with_reducible intro hI); try first | (cases hI; done) | (simp only [INTS, zL] at hI; try first | (exfalso; omega) | (have hT : True := hI; clear hT hI))))
        | ((first | apply jf | apply jg); (iterate 2 (try (simp (disch := omega) only [push_cast, simprocAttr, hS2, hk2, gl0, gd0, hp0, hq] <;> rfl))))

      all_goals (show _ = _; rfl)
  · obtain ⟨hk2, hg2, hd2, hl2, hm2, hx2⟩ := drop_cons hp02 eLink []
    obtain ⟨a1, a2⟩ := h3 x hm2
    obtain ⟨a3, a4⟩ := h4 x hm2
    obtain ⟨u1, u2, u3⟩ := getI (ts := TS) (i := x.a) (by omega)
    obtain ⟨v1, v2, v3⟩ := getI (ts := TS) (i := x.b) (by omega)
    have w1 := hp20 _ u3
    have w2 := hp20 _ v3
    rw [List.all_cons] at hp12
    have hxB : lkB TS x = decide (TS.getD x.b 0 - TS.getD x.a 0 ≤ x.m) := rfl
    rw [hxB] at hp12
    clear hxB
    obtain ⟨P, hP⟩ : ∃ z, TS.getD x.a 0 = z := ⟨_, rfl⟩
    obtain ⟨U, hU⟩ : ∃ z, TS.getD x.b 0 = z := ⟨_, rfl⟩
    rw [hP] at u1 u2 w1 hp12
    rw [hU] at v1 v2 w2 hp12
    unfold okN at w1 w2
    simp only [Bool.and_eq_true, decide_eq_true_eq] at w1 w2
    obtain ⟨w1, w3⟩ := w1
    obtain ⟨w2, w4⟩ := w2
    have b1 : (x.a : Int) < (TS.length : Int) := by omega
    have b2 : (x.b : Int) < (TS.length : Int) := by omega
    by_cases hq : U - P ≤ x.m
    · have hq' : ¬ P + x.m < U := by omega
      rw [decide_eq_true hq, Bool.true_and] at hp12
      repeat' first
        | apply jA | apply jB | apply jC | apply jD | apply jE | apply jF | apply jG | apply jH | apply jI | apply jJ
        | refine W.draw cx_mixed (by decide +kernel) ?_
        | ((first | (apply jK cx_ok; decide) | (apply jL cx_ok; decide; decide) | (apply jN; rfl; decide) | (apply jO; rfl; decide; decide) | apply jR); (simp (disch := omega) only [push_cast, simprocAttr, hS2, hk2, hg2, hx2, u1, u2, v1, v2, b1, b2, hq'] <;> rfl); all_goals try ((with_reducible intro hI); try first | (cases hI; done) | (simp only [INTS, zL] at hI; try first | (exfalso; omega) | (have hT : True := hI; clear hT hI))))
        | ((first | apply jf | apply jg); (iterate 2 (try (simp (disch := omega) only [push_cast, simprocAttr, hS2, hk2, hg2, hx2, u1, u2, v1, v2, b1, b2, hq'] <;> rfl))))

      all_goals (refine ⟨rest2.length, ?_, k2 + 1, rest2, rfl, hd2, hp12, ?_, ?_, ?_⟩; ((simp only [zD] at *; omega)); all_goals first | (simp (disch := omega) only [push_cast, simprocAttr, hS2, hk2, hg2, hx2, u1, u2, v1, v2, b1, b2, hq'] <;> first | rfl | omega) | omega)
    · have hq' : P + x.m < U := by omega
      rw [decide_eq_false hq, Bool.false_and] at hp12
      subst hp12
      rw [Bool.false_and]
      repeat' first
        | apply jA | apply jB | apply jC | apply jD | apply jE | apply jF | apply jG | apply jH | apply jI | apply jJ
        | refine W.draw cx_mixed (by decide +kernel) ?_
        | ((first | (apply jK cx_ok; decide) | (apply jL cx_ok; decide; decide) | (apply jN; rfl; decide) | (apply jO; rfl; decide; decide) | apply jR); (simp (disch := omega) only [push_cast, simprocAttr, hS2, hk2, hg2, hx2, u1, u2, v1, v2, b1, b2, hq'] <;> rfl); all_goals try ((with_reducible intro hI); try first | (cases hI; done) | (simp only [INTS, zL] at hI; try first | (exfalso; omega) | (have hT : True := hI; clear hT hI))))
        | ((first | apply jf | apply jg); (iterate 2 (try (simp (disch := omega) only [push_cast, simprocAttr, hS2, hk2, hg2, hx2, u1, u2, v1, v2, b1, b2, hq'] <;> rfl))))

      all_goals first
        | (exfalso; omega)
        | (show _ = _; rfl)
theorem Listed_ok (r : Rec) (ts : List Int) (hs : r.strikes.length ≤ 1099511627776) (hlt : ts.length ≤ 1099511627776) : OKv cx 54 [.agg (eRec r), lInt ts] (ab (ts.all okT && decide (ts.length = r.strikes.length))) := by
  obtain ⟨B, hB⟩ : ∃ z, (ts.all okT && decide (ts.length = r.strikes.length)) = z := ⟨_, rfl⟩
  rw [hB]
  refine OKat.of_body (rs := [4]) Try.func54 rfl (by decide +kernel) rfl (by simp [Try.ntmps54]) ?_
  simp only [Try.ntmps54]
  repeat' first
    | apply jA | apply jB | apply jC | apply jD | apply jE | apply jF | apply jG | apply jH | apply jI
    | ((first | (apply jK cx_ok; decide) | (apply jN; rfl; decide) | apply jR); (simp (disch := omega) only [push_cast, simprocAttr, natNe, zI, zG, zJ, zM, Bool.true_and, zO, beq_self_eq_true, zP, Bool.not_true, zW, zC] <;> rfl); all_goals try ((with_reducible intro hI); try first | (cases hI; done) | (simp only [INTS, zL] at hI; try first | (exfalso; omega) | (have hT : True := hI; clear hT hI))))
    | ((first | apply jf | apply jg); (iterate 2 (try (simp (disch := omega) only [push_cast, simprocAttr, natNe, zI, zG, zJ, zM, Bool.true_and, zO, beq_self_eq_true, zP, Bool.not_true, zW, zC] <;> rfl))))

  refine AW.loop (fun n s => ∃ (k : Nat) (rest : List Int), n = rest.length ∧ (ts.drop k = rest) ∧ ((rest.all okT && decide (ts.length = r.strikes.length)) = B) ∧ 1 ≤ s.nx ∧ s.tm 1 = lInt ts ∧ s.tm 2 = .ptr 0 0 0 1 ∧ s.tm 5 = ai k ∧ Pg.rowAt s.H (0) = some ({ k := 14, es := [eRec r], ty := 30 })) (ts.length) ⟨0, ts, rfl, rfl, hB, ?_, ?_, ?_, ?_, ?_⟩ ?_
  iterate 5 (first | (simp (disch := omega) only [push_cast, simprocAttr, natNe, zI, zG, zJ, zM, Bool.true_and, zO, beq_self_eq_true, zP, Bool.not_true, zW, zC] <;> first | rfl | omega) | omega)
  rintro n0 s0 ⟨k0, rest0, hn0, hp00, hp10, hnl0, hS0⟩
  have hZ0 : (0 : Nat) ≠ s0.nx ∧ s0.nx ≠ (0 : Nat) := by omega
  rcases rest0 with _ | ⟨x, rest0⟩
  rotate_left
  · obtain ⟨hk, hg, hd', hl', hm', hx⟩ := drop_cons hp00 eInt []
    rw [List.all_cons, Bool.and_assoc] at hp10
    cases hx0 : okT x with
    | true =>
      have hx1 := hx0
      unfold okT at hx1
      simp only [Bool.and_eq_true, decide_eq_true_eq] at hx1
      obtain ⟨x1, x2⟩ := hx1
      rw [hx0, Bool.true_and] at hp10
      repeat' first
        | apply jA | apply jB | apply jC | apply jD | apply jE | apply jF | apply jG | apply jH | apply jI
        | ((first | (apply jK cx_ok; decide) | (apply jN; rfl; decide) | apply jR); (simp (disch := omega) only [push_cast, simprocAttr, hS0, hZ0, hk, hg, hx, x1, x2, natNe, zI, zG, zJ, zM, Bool.true_and, zO, beq_self_eq_true, zP, Bool.not_true, zW, zC] <;> rfl); all_goals try ((with_reducible intro hI); try first | (cases hI; done) | (simp only [INTS, zL] at hI; try first | (exfalso; omega) | (have hT : True := hI; clear hT hI))))
        | ((first | apply jf | apply jg); (iterate 2 (try (simp (disch := omega) only [push_cast, simprocAttr, hS0, hZ0, hk, hg, hx, x1, x2, natNe, zI, zG, zJ, zM, Bool.true_and, zO, beq_self_eq_true, zP, Bool.not_true, zW, zC] <;> rfl))))

      all_goals (refine ⟨rest0.length, ?_, k0 + 1, rest0, rfl, hd', hp10, ?_, ?_, ?_, ?_, ?_⟩; ((simp only [zD] at *; omega)); all_goals first | (simp (disch := omega) only [push_cast, simprocAttr, hS0, hZ0, hk, hg, hx, x1, x2, natNe, zI, zG, zJ, zM, Bool.true_and, zO, beq_self_eq_true, zP, Bool.not_true, zW, zC] <;> first | rfl | omega) | omega)
    | false =>
      have hx1 : ¬ (0 ≤ x ∧ x ≤ 1073741823) := fun h => by unfold okT at hx0; simp [h.1, h.2] at hx0
      rw [hx0, Bool.false_and] at hp10
      subst hp10
      repeat' first
        | apply jA | apply jB | apply jC | apply jD | apply jE | apply jF | apply jG | apply jH | apply jI
        | ((first | (apply jK cx_ok; decide) | (apply jN; rfl; decide) | apply jR); (simp (disch := omega) only [push_cast, simprocAttr, hS0, hZ0, hk, hg, hx, natNe, zI, zG, zJ, zM, Bool.true_and, zO, beq_self_eq_true, zP, Bool.not_true, zW, zC] <;> rfl); all_goals try ((with_reducible intro hI); try first | (cases hI; done) | (simp only [INTS, zL] at hI; try first | (exfalso; omega) | (have hT : True := hI; clear hT hI))))
        | ((first | apply jf | apply jg); (iterate 2 (try (simp (disch := omega) only [push_cast, simprocAttr, hS0, hZ0, hk, hg, hx, natNe, zI, zG, zJ, zM, Bool.true_and, zO, beq_self_eq_true, zP, Bool.not_true, zW, zC] <;> rfl))))

      all_goals first
        | (exfalso; omega)
        | (show _ = _; rfl)
  have hk := drop_nil hp00
  rw [List.all_nil, Bool.true_and] at hp10
  by_cases hl : ts.length = r.strikes.length
  · have hq : ((ts.length : Int) == (r.strikes.length : Int)) = true := by rw [hl]; exact beq_self_eq_true _
    rw [decide_eq_true hl] at hp10
    subst hp10
    repeat' first
      | apply jA | apply jB | apply jC | apply jD | apply jE | apply jF | apply jG | apply jH | apply jI
      | ((first | (apply jK cx_ok; decide) | (apply jN; rfl; decide) | apply jR); (simp (disch := omega) only [push_cast, simprocAttr, hS0, hZ0, hk, hq, natNe, zI, zG, zJ, zM, Bool.true_and, zO, beq_self_eq_true, zP, Bool.not_true, zW, zC] <;> rfl); all_goals try ((with_reducible intro hI); try first | (cases hI; done) | (simp only [INTS, zL] at hI; try first | (exfalso; omega) | (have hT : True := hI; clear hT hI))))
      | ((first | apply jf | apply jg); (iterate 2 (try (simp (disch := omega) only [push_cast, simprocAttr, hS0, hZ0, hk, hq, natNe, zI, zG, zJ, zM, Bool.true_and, zO, beq_self_eq_true, zP, Bool.not_true, zW, zC] <;> rfl))))

    all_goals (show _ = _; rfl)
  · have hq : ((ts.length : Int) == (r.strikes.length : Int)) = false := beq_false_of_ne (by omega)
    rw [decide_eq_false hl] at hp10
    subst hp10
    repeat' first
      | apply jA | apply jB | apply jC | apply jD | apply jE | apply jF | apply jG | apply jH | apply jI
      | ((first | (apply jK cx_ok; decide) | (apply jN; rfl; decide) | apply jR); (simp (disch := omega) only [push_cast, simprocAttr, hS0, hZ0, hk, hq, natNe, zI, zG, zJ, zM, Bool.true_and, zO, beq_self_eq_true, zP, Bool.not_true, zW, zC] <;> rfl); all_goals try ((with_reducible intro hI); try first | (cases hI; done) | (simp only [INTS, zL] at hI; try first | (exfalso; omega) | (have hT : True := hI; clear hT hI))))
      | ((first | apply jf | apply jg); (iterate 2 (try (simp (disch := omega) only [push_cast, simprocAttr, hS0, hZ0, hk, hq, natNe, zI, zG, zJ, zM, Bool.true_and, zO, beq_self_eq_true, zP, Bool.not_true, zW, zC] <;> rfl))))

    all_goals (show _ = _; rfl)
theorem RFits_ok (r : Rec) (hv : r.V) (ts : List Int) (hl : ts.length = r.strikes.length) (hall : ∀ t ∈ ts, 0 ≤ t ∧ t ≤ 1073741823) : OKv cx 55 [.agg (eRec r), lInt ts] (ab (decide ((lengthsF (nodesR r []).length (linksR r [] ++ fitL 0 ts) (-1)).2.2 < 0))) := by
  obtain ⟨f1, f2, f3, f4, f5⟩ := links_facts (more := []) hv (by decide) nomore
  have hl9 := linksR_len9 (more := []) hv (by decide) nomore
  have hn := RLinksN r hv
  have c46 := rNodes_ok r hv
  have hnl := nodesR_len r []
  have hns := hv.nstrikes
  have hok := fitL_ok (n := (nodesR r []).length) ts 0 (by omega) hall
  have hse : ∀ (l : List Int) (i : Nat), ∀ x ∈ fitL i l, x.a ≠ x.b := by
    intro l
    induction l with
    | nil => intro i x hx; simp [fitL] at hx
    | cons y l ih =>
      intro i x hx
      unfold fitL at hx
      rcases List.mem_cons.1 hx with rfl | hx
      · show 0 ≠ 3 + i; omega
      · rcases List.mem_cons.1 hx with rfl | hx
        · show 3 + i ≠ 0; omega
        · exact ih _ x hx
  have hL : ∀ l ∈ linksR r [] ++ fitL 0 ts, l.a < (nodesR r []).length ∧ l.b < (nodesR r []).length := fun l hl => by
    rcases List.mem_append.1 hl with hl | hl
    · exact f3 l hl
    · exact (hok l hl).1
  have hM : ∀ l ∈ linksR r [] ++ fitL 0 ts, -1073741823 ≤ l.m ∧ l.m ≤ 1073741823 := fun l hl => by
    rcases List.mem_append.1 hl with hl | hl
    · exact f4 l hl
    · exact (hok l hl).2
  have hE : ∀ l ∈ linksR r [] ++ fitL 0 ts, l.a ≠ l.b := fun l hl => by
    rcases List.mem_append.1 hl with hl | hl
    · exact f5 l hl
    · exact hse ts 0 l hl
  have hlen : (linksR r [] ++ fitL 0 ts).length ≤ 10000 := by rw [List.length_append, fitL_len]; omega
  have c104 := closure_ok (nodesR r []).length _ f1 hlen hL hM hE
  have hres : ∃ X, OKv cx 104 [ai (nodesR r []).length, lLink (linksR r [] ++ fitL 0 ts)] (.tup [.lst X, ab (decide ((lengthsF (nodesR r []).length (linksR r [] ++ fitL 0 ts) (-1)).2.2 < 0))]) := by
    rcases both_ways hL (by decide : (0 : Int) ≤ 1073741823) hM (facts_far f1) with ⟨o, e1, e2, _⟩ | ⟨e1, e2⟩
    · rw [e1] at c104; rw [decide_eq_true e2]; exact ⟨_, c104⟩
    · rw [e1] at c104; rw [decide_eq_false e2]; exact ⟨[], c104⟩
  clear c104 hse hok hL hM hE f2 f3 f4 f5
  obtain ⟨X, c104⟩ := hres
  obtain ⟨BB, hBB⟩ : ∃ z, decide ((lengthsF (nodesR r []).length (linksR r [] ++ fitL 0 ts) (-1)).2.2 < 0) = z := ⟨_, rfl⟩
  rw [hBB] at c104 ⊢
  obtain ⟨RR, hRR⟩ : ∃ z, linksR r [] ++ fitL 0 ts = z := ⟨_, rfl⟩
  rw [hRR] at c104 hlen
  obtain ⟨LK, hLK⟩ : ∃ z, linksR r [] = z := ⟨_, rfl⟩
  rw [hLK] at hn hRR hl9
  clear hBB hLK
  refine OKat.of_body (rs := [4]) Try.func55 rfl (by decide +kernel) rfl (by simp [Try.ntmps55]) ?_
  simp only [Try.ntmps55]
  repeat' first
    | ((refine AWL.calln cx_ok rfl rfl (by decide) rfl ?_ ?_ ?_ hn ?_); (iterate 3 (simp (disch := (first | omega | (simp only [vC, bothL_len, needleL_len]; omega))) only [push_cast, simprocAttr, takeM, dropM, zK, zA, zB, zN, zQ, zR, zO, zP, zT, zS, zU, leT, zH, natNe, zI, zG, zJ, zM, Bool.true_and, beq_self_eq_true, Bool.not_true, zW, zC] <;> rfl)); (rintro _ ⟨lw, hlw, rfl⟩))
    | apply jA | apply jB | apply jC | apply jD | apply jE | apply jF | apply jG | apply jH | apply jI | apply jJ
    | refine W.draw cx_mixed (by decide +kernel) ?_
    | ((first | (apply jK cx_ok; decide) | (apply jL cx_ok; decide; decide) | apply jR); (simp (disch := (first | omega | (simp only [vC, bothL_len, needleL_len]; omega))) only [push_cast, simprocAttr, takeM, dropM, zK, zA, zB, zN, zQ, zR, zO, zP, zT, zS, zU, leT, zH, natNe, zI, zG, zJ, zM, Bool.true_and, beq_self_eq_true, Bool.not_true, zW, zC] <;> rfl); all_goals try ((with_reducible intro hI); try first | (cases hI; done) | (simp only [INTS, zL] at hI; try first | (exfalso; omega) | (have hT : True := hI; clear hT hI))))
    | (apply jT cx_ok; decide; rfl; rfl; rfl; decide; (iterate 3 (simp (disch := (first | omega | (simp only [vC, bothL_len, needleL_len]; omega))) only [push_cast, simprocAttr, takeM, dropM, zK, zA, zB, zN, zQ, zR, zO, zP, zT, zS, zU, leT, zH, natNe, zI, zG, zJ, zM, Bool.true_and, beq_self_eq_true, Bool.not_true, zW, zC] <;> rfl)); (first | (focus (simp; done)) | (intro c hc; obtain ⟨x, _, rfl⟩ := List.mem_map.1 hc; rfl)); ((first | rfl | simp (disch := omega) only [push_cast])); ((try dsimp only); (try simp only [vC, bothL_len, needleL_len]); omega); ((try dsimp only); (try simp only [vC, bothL_len, needleL_len]); omega))
    | ((first | apply jf | apply jg); (iterate 2 (try (simp (disch := (first | omega | (simp only [vC, bothL_len, needleL_len]; omega))) only [push_cast, simprocAttr, takeM, dropM, zK, zA, zB, zN, zQ, zR, zO, zP, zT, zS, zU, leT, zH, natNe, zI, zG, zJ, zM, Bool.true_and, beq_self_eq_true, Bool.not_true, zW, zC] <;> rfl))))

  refine AW.loop (fun n s => ∃ (k lw : Nat) (M : List Lk) (rest : List Int), n = rest.length ∧ (ts.drop k = rest) ∧ (M ++ fitL k rest = RR) ∧ (lw ≤ M.length) ∧ (M.length ≤ 9000 + 2 * k) ∧ (k ≤ ts.length) ∧ 2 ≤ s.nx ∧ s.tm 1 = lInt ts ∧ s.tm 2 = .ptr 0 0 0 1 ∧ s.tm 5 = .ref 1 0 M.length ∧ s.tm 6 = ai k ∧ Pg.rowAt s.H (0) = some ({ k := 14, es := [eRec r], ty := 30 }) ∧ Pg.rowAt s.H (1) = some ({ k := 3, es := M.map eLink, ty := 66, lo := lw })) (ts.length) ⟨0, lw, LK, ts, rfl, rfl, hRR, hlw, (by omega), (Nat.zero_le _), ?_, ?_, ?_, ?_, ?_, ?_, ?_⟩ ?_
  iterate 7 (first | (simp (disch := omega) only [push_cast, simprocAttr, natNe, zI, zG, zJ, zM, Bool.true_and, zO, beq_self_eq_true, zP, Bool.not_true, zW, zC] <;> first | rfl | omega) | omega)
  rintro n0 s0 ⟨k0, lw0, M0, rest0, hn0, hp00, hp10, hp20, hp30, hp40, hnl0, hS0⟩
  have hZ0 : (0 : Nat) ≠ s0.nx ∧ s0.nx ≠ (0 : Nat) ∧ (1 : Nat) ≠ s0.nx ∧ s0.nx ≠ (1 : Nat) := by omega
  rcases rest0 with _ | ⟨x, rest0⟩
  rotate_left
  · obtain ⟨hk, hg, hd', hl', hm', hx⟩ := drop_cons hp00 eInt []
    obtain ⟨x1, x2⟩ := hall x hm'
    have hkl : k0 + 1 ≤ ts.length := by omega
    have c103 : OKv cx 103 [ai (3 + (k0 : Int)), .agg [ai x, ai x]] (lLink (bothL (3 + k0) ⟨x, x⟩)) := by
      have := both_ok (3 + (k0 : Int)) ⟨x, x⟩ (by omega) ⟨x1, by show x ≤ _; omega⟩
      rwa [show (3 + (k0 : Int)).toNat = 3 + k0 by omega] at this
    have hq1 : (M0 ++ bothL (3 + k0) ⟨x, x⟩) ++ fitL (k0 + 1) rest0 = RR := by rw [← hp10, List.append_assoc]; rfl
    obtain ⟨T2, hT2⟩ : ∃ z, bothL (3 + k0) ⟨x, x⟩ = z := ⟨_, rfl⟩
    have hT2l : T2.length = 2 := by rw [← hT2]; rfl
    have hT2e : T2.isEmpty = false := by rw [← hT2]; rfl
    rw [hT2] at c103 hq1
    clear hT2 hp10
    repeat' first
      | ((refine AWL.calln cx_ok rfl rfl (by decide) rfl ?_ ?_ ?_ hn ?_); (iterate 3 (simp (disch := (first | omega | (simp only [vC, hT2l]; omega))) only [push_cast, simprocAttr, takeM, dropM, zK, zA, zB, zN, zQ, zR, zO, zP, zT, zS, zU, leT, zH, hS0, hZ0, hk, hg, hx, hT2l, hT2e, isEmpty_map, natNe, zI, zG, zJ, zM, Bool.true_and, beq_self_eq_true, Bool.not_true, zW, zC, bothL_ne, needleL_ne, bothL_len, needleL_len, zZ, yC, yD, Int.neg_zero] <;> rfl)); (rintro _ ⟨lw, hlw, rfl⟩))
      | apply jA | apply jB | apply jC | apply jD | apply jE | apply jF | apply jG | apply jH | apply jI | apply jJ
      | refine AW.draw (id := 5) cx_mixed [13, 14] [] [] 0 (by decide +kernel) ?_
      | refine W.draw cx_mixed (by decide +kernel) ?_
      | ((first | (apply jK cx_ok; decide) | (apply jL cx_ok; decide; decide) | apply jR); (simp (disch := (first | omega | (simp only [vC, hT2l]; omega))) only [push_cast, simprocAttr, takeM, dropM, zK, zA, zB, zN, zQ, zR, zO, zP, zT, zS, zU, leT, zH, hS0, hZ0, hk, hg, hx, hT2l, hT2e, isEmpty_map, natNe, zI, zG, zJ, zM, Bool.true_and, beq_self_eq_true, Bool.not_true, zW, zC, bothL_ne, needleL_ne, bothL_len, needleL_len, zZ, yC, yD, Int.neg_zero] <;> rfl); all_goals try ((with_reducible intro hI); try first | (cases hI; done) | (simp only [INTS, zL] at hI; try first | (exfalso; omega) | (have hT : True := hI; clear hT hI))))
      | ((first | (apply ja cx_ok; decide) | (apply jb cx_ok; decide; decide) | (apply jc cx_ok; decide; decide)); (simp (disch := (first | omega | (simp only [vC, hT2l]; omega))) only [push_cast, simprocAttr, takeM, dropM, zK, zA, zB, zN, zQ, zR, zO, zP, zT, zS, zU, leT, zH, hS0, hZ0, hk, hg, hx, hT2l, hT2e, isEmpty_map, natNe, zI, zG, zJ, zM, Bool.true_and, beq_self_eq_true, Bool.not_true, zW, zC, bothL_ne, needleL_ne, bothL_len, needleL_len, zZ, yC, yD, Int.neg_zero] <;> rfl); try first | exact .inl rfl | exact .inr (by simp))
      | ((apply jY cx_ok; decide; decide); (simp (disch := (first | omega | (simp only [vC, hT2l]; omega))) only [push_cast, simprocAttr, takeM, dropM, zK, zA, zB, zN, zQ, zR, zO, zP, zT, zS, zU, leT, zH, hS0, hZ0, hk, hg, hx, hT2l, hT2e, isEmpty_map, natNe, zI, zG, zJ, zM, Bool.true_and, beq_self_eq_true, Bool.not_true, zW, zC, bothL_ne, needleL_ne, bothL_len, needleL_len, zZ, yC, yD, Int.neg_zero] <;> rfl); first | exact .inl rfl | exact .inr (by simp))
      | (apply jT cx_ok; decide; rfl; rfl; rfl; decide; (iterate 3 (simp (disch := (first | omega | (simp only [vC, hT2l]; omega))) only [push_cast, simprocAttr, takeM, dropM, zK, zA, zB, zN, zQ, zR, zO, zP, zT, zS, zU, leT, zH, hS0, hZ0, hk, hg, hx, hT2l, hT2e, isEmpty_map, natNe, zI, zG, zJ, zM, Bool.true_and, beq_self_eq_true, Bool.not_true, zW, zC, bothL_ne, needleL_ne, bothL_len, needleL_len, zZ, yC, yD, Int.neg_zero] <;> rfl)); (first | (focus (simp; done)) | (intro c hc; obtain ⟨x, _, rfl⟩ := List.mem_map.1 hc; rfl)); ((first | rfl | simp (disch := omega) only [push_cast])); ((try dsimp only); (try simp only [vC, bothL_len, needleL_len]); omega); ((try dsimp only); (try simp only [vC, bothL_len, needleL_len]); omega))
      | (apply jU cx_ok; decide; decide; rfl; rfl; rfl; decide; (iterate 3 (simp (disch := (first | omega | (simp only [vC, hT2l]; omega))) only [push_cast, simprocAttr, takeM, dropM, zK, zA, zB, zN, zQ, zR, zO, zP, zT, zS, zU, leT, zH, hS0, hZ0, hk, hg, hx, hT2l, hT2e, isEmpty_map, natNe, zI, zG, zJ, zM, Bool.true_and, beq_self_eq_true, Bool.not_true, zW, zC, bothL_ne, needleL_ne, bothL_len, needleL_len, zZ, yC, yD, Int.neg_zero] <;> rfl)); (first | (focus (simp; done)) | (intro c hc; obtain ⟨x, _, rfl⟩ := List.mem_map.1 hc; rfl)); ((first | rfl | (focus (simp (disch := omega) only [push_cast]; done)))); ((try dsimp only); (try simp only [vC, bothL_len, needleL_len]); omega); ((try dsimp only); (try simp only [vC, bothL_len, needleL_len]); omega); first | exact .inl rfl | exact .inr (by simp))
      | ((first | (apply jV cx_ok; decide) | (apply jW cx_ok; decide; decide) | (apply jX cx_ok; decide; decide)); (iterate 2 (simp (disch := (first | omega | (simp only [vC, hT2l]; omega))) only [push_cast, simprocAttr, takeM, dropM, zK, zA, zB, zN, zQ, zR, zO, zP, zT, zS, zU, leT, zH, hS0, hZ0, hk, hg, hx, hT2l, hT2e, isEmpty_map, natNe, zI, zG, zJ, zM, Bool.true_and, beq_self_eq_true, Bool.not_true, zW, zC, bothL_ne, needleL_ne, bothL_len, needleL_len, zZ, yC, yD, Int.neg_zero] <;> rfl)); (with_reducible first | exact c103); try first | rfl | (simp (disch := (first | omega | (simp only [vC, hT2l]; omega))) only [push_cast, simprocAttr, takeM, dropM, zK, zA, zB, zN, zQ, zR, zO, zP, zT, zS, zU, leT, zH, hS0, hZ0, hk, hg, hx, hT2l, hT2e, isEmpty_map, natNe, zI, zG, zJ, zM, Bool.true_and, beq_self_eq_true, Bool.not_true, zW, zC, bothL_ne, needleL_ne, bothL_len, needleL_len, zZ, yC, yD, Int.neg_zero] <;> rfl))
      | ((first | apply jf | apply jg); (iterate 2 (try (simp (disch := (first | omega | (simp only [vC, hT2l]; omega))) only [push_cast, simprocAttr, takeM, dropM, zK, zA, zB, zN, zQ, zR, zO, zP, zT, zS, zU, leT, zH, hS0, hZ0, hk, hg, hx, hT2l, hT2e, isEmpty_map, natNe, zI, zG, zJ, zM, Bool.true_and, beq_self_eq_true, Bool.not_true, zW, zC, bothL_ne, needleL_ne, bothL_len, needleL_len, zZ, yC, yD, Int.neg_zero] <;> rfl))))

    all_goals (refine ⟨rest0.length, ?_, k0 + 1, M0.length + 2, (M0 ++ T2), rest0, rfl, hd', hq1, (by simp [hT2l]), (by simp [hT2l]; omega), (by omega), ?_, ?_, ?_, ?_, ?_, ?_, ?_⟩; ((simp only [zD] at *; omega)); all_goals first | (simp (disch := omega) only [push_cast, simprocAttr, hS0, hZ0, hk, hg, hx, hT2l, hT2e, isEmpty_map, natNe, zI, zG, zJ, zM, Bool.true_and, zO, beq_self_eq_true, zP, Bool.not_true, zW, zC, bothL_ne, needleL_ne, bothL_len, needleL_len, zZ, yC, yD, Int.neg_zero] <;> first | rfl | omega) | omega)
  have hk := drop_nil hp00
  have hp10' : M0 = RR := by rw [← hp10]; simp [fitL]
  subst hp10'
  repeat' first
    | ((refine AWL.calln cx_ok rfl rfl (by decide) rfl ?_ ?_ ?_ hn ?_); (iterate 3 (simp (disch := (first | omega | (simp only [vC, bothL_len, needleL_len]; omega))) only [push_cast, simprocAttr, takeM, dropM, zK, zA, zB, zN, zQ, zR, zO, zP, zT, zS, zU, leT, zH, hS0, hZ0, hk, natNe, zI, zG, zJ, zM, Bool.true_and, beq_self_eq_true, Bool.not_true, zW, zC] <;> rfl)); (rintro _ ⟨lw, hlw, rfl⟩))
    | apply jA | apply jB | apply jC | apply jD | apply jE | apply jF | apply jG | apply jH | apply jI | apply jJ
    | refine W.draw cx_mixed (by decide +kernel) ?_
    | ((first | (apply jK cx_ok; decide) | (apply jL cx_ok; decide; decide) | apply jR); (simp (disch := (first | omega | (simp only [vC, bothL_len, needleL_len]; omega))) only [push_cast, simprocAttr, takeM, dropM, zK, zA, zB, zN, zQ, zR, zO, zP, zT, zS, zU, leT, zH, hS0, hZ0, hk, natNe, zI, zG, zJ, zM, Bool.true_and, beq_self_eq_true, Bool.not_true, zW, zC] <;> rfl); all_goals try ((with_reducible intro hI); try first | (cases hI; done) | (simp only [INTS, zL] at hI; try first | (exfalso; omega) | (have hT : True := hI; clear hT hI))))
    | (apply jT cx_ok; decide; rfl; rfl; rfl; decide; (iterate 3 (simp (disch := (first | omega | (simp only [vC, bothL_len, needleL_len]; omega))) only [push_cast, simprocAttr, takeM, dropM, zK, zA, zB, zN, zQ, zR, zO, zP, zT, zS, zU, leT, zH, hS0, hZ0, hk, natNe, zI, zG, zJ, zM, Bool.true_and, beq_self_eq_true, Bool.not_true, zW, zC] <;> rfl)); (first | (focus (simp; done)) | (intro c hc; obtain ⟨x, _, rfl⟩ := List.mem_map.1 hc; rfl)); ((first | rfl | simp (disch := omega) only [push_cast])); ((try dsimp only); (try simp only [vC, bothL_len, needleL_len]); omega); ((try dsimp only); (try simp only [vC, bothL_len, needleL_len]); omega))
    | ((first | (apply jV cx_ok; decide) | (apply jW cx_ok; decide; decide)); (iterate 2 (simp (disch := (first | omega | (simp only [vC, bothL_len, needleL_len]; omega))) only [push_cast, simprocAttr, takeM, dropM, zK, zA, zB, zN, zQ, zR, zO, zP, zT, zS, zU, leT, zH, hS0, hZ0, hk, natNe, zI, zG, zJ, zM, Bool.true_and, beq_self_eq_true, Bool.not_true, zW, zC] <;> rfl)); (with_reducible first | exact c46 | exact c104); try first | rfl | (simp (disch := (first | omega | (simp only [vC, bothL_len, needleL_len]; omega))) only [push_cast, simprocAttr, takeM, dropM, zK, zA, zB, zN, zQ, zR, zO, zP, zT, zS, zU, leT, zH, hS0, hZ0, hk, natNe, zI, zG, zJ, zM, Bool.true_and, beq_self_eq_true, Bool.not_true, zW, zC] <;> rfl))
    | ((first | apply jf | apply jg); (iterate 2 (try (simp (disch := (first | omega | (simp only [vC, bothL_len, needleL_len]; omega))) only [push_cast, simprocAttr, takeM, dropM, zK, zA, zB, zN, zQ, zR, zO, zP, zT, zS, zU, leT, zH, hS0, hZ0, hk, natNe, zI, zG, zJ, zM, Bool.true_and, beq_self_eq_true, Bool.not_true, zW, zC] <;> rfl))))

  all_goals (show _ = _; rfl)
end Go.Proofs.Ks
