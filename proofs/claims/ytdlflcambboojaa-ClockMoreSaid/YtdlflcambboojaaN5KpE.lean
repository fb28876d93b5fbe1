/-
  Contracts of functions, proved by going through their code. No conditions.
-/
import Derived.Test.YtdlflcambboojaaMaa
import Derived.Test.YtdlflcambboojaaN5KpC
import Derived.Test.YtdlflcambboojaaN5KpD
import Derived.Test.YtdlflcambboojaaN5LwH
set_option linter.unusedVariables false
set_option linter.unusedSimpArgs false
set_option maxHeartbeats 8000000
set_option maxRecDepth 10000
namespace Go.Proofs.Ks
open Go Go.Pg Go.Proofs
theorem Known_ok (r : Rec) (w t : Nat) (s : Span) (ht : t < 256) (h1 : r.strikes.length ≤ 1000) (h2 : r.sights.length ≤ 1000) (h3 : r.s.stops.length ≤ 1000) : OKv cx 32 [.agg (eRec r), .v (.int .u8 (w : Int)), .v (.int .u8 (t : Int)), .agg (eSpan s)] (.agg (eRec (knownR r (w % 8) t s))) := by
  have hm : w % 8 < 8 := Nat.mod_lt _ (by decide)
  have hE : (w : Int) % 8 = ((w % 8 : Nat) : Int) := by omega
  generalize w % 8 = m at hm hE ⊢
  have hc : m = 0 ∨ m = 1 ∨ m = 2 ∨ m = 3 ∨ m = 4 ∨ m = 5 ∨ m = 6 ∨ m = 7 := by omega
  rcases hc with rfl | rfl | rfl | rfl | rfl | rfl | rfl | rfl
  · exact known0 r w t s ht h1 h2 h3 hE
  · exact known1 r w t s ht h1 h2 h3 hE
  · exact known2 r w t s ht h1 h2 h3 hE
  · exact known3 r w t s ht h1 h2 h3 hE
  · exact known4 r w t s ht h1 h2 h3 hE
  · by_cases hn : r.strikes.length = 0
    · exact known5_none r w t s ht h1 h2 h3 hE hn
    · exact known5_some r w t s ht h1 h2 h3 hE (by omega)
  · by_cases hn : r.s.stops.length = 0
    · exact known6_none r w t s ht h1 h2 h3 hE hn
    · exact known6_some r w t s ht h1 h2 h3 hE (by omega)
  · by_cases hn : r.strikes.length = 0
    · exact known7_none r w t s ht h1 h2 h3 hE hn
    · exact known7_some r w t s ht h1 h2 h3 hE (by omega)
theorem narS_set : ∀ (l : List Stop) (k : Nat) (a : Stop) (S : Span), l[k]? = some a → inS S a.secs → narS l (l.set k ⟨a.pos, S⟩)
  | [], k, a, S, h, _ => by simp at h
  | b :: l, 0, a, S, h, hS => by
    simp only [List.getElem?_cons_zero, Option.some.injEq] at h
    subst h
    exact ⟨rfl, hS, narS_refl l⟩
  | b :: l, k + 1, a, S, h, hS => ⟨rfl, inS_refl _, narS_set l k a S (by simpa using h) hS⟩
theorem known_nar (r : Rec) (m t : Nat) (s : Span) : Nar r (knownR r m t s) := by
  have same : ∀ (j : Nat) (a b : Strike), r.strikes[j]? = some a → r.strikes[j]? = some b → inS b.pos a.pos := fun j a b h1 h2 => by
    rw [h1] at h2; cases h2; exact inS_refl _
  have self : Nar r r := ⟨inS_refl _, inS_refl _, inS_refl _, inS_refl _, inS_refl _, narS_refl _, rfl, same, fun _ h => h⟩
  unfold knownR
  repeat' split
  · exact { self with inn := meet_in _ _ }
  · exact { self with out := meet_in _ _ }
  · exact { self with zero := meet_in _ _ }
  · exact { self with fin := meet_in _ _ }
  · exact { self with rate := meet_in _ _ }
  · exact self
  · rename_i hn
    have hkl : t % r.strikes.length < r.strikes.length := Nat.mod_lt _ (by omega)
    generalize t % r.strikes.length = k at hkl
    obtain ⟨a, ha⟩ : ∃ x, r.strikes[k]? = some x := ⟨_, List.getElem?_eq_getElem hkl⟩
    have ga : r.strikes.getD k default = a := by rw [List.getD_eq_getElem?_getD, ha]; rfl
    rw [ga]
    refine { self with ids := ?_, strikes := fun j x y hx hy => ?_ }
    · show (r.strikes.set k _).map (·.id) = _
      rw [List.map_set]
      refine List.ext_getElem? fun j => ?_
      rw [List.getElem?_set]
      split
      · rename_i e
        subst e
        rw [List.length_map, if_pos hkl, List.getElem?_map, ha]; rfl
      · rfl
    · have hy' : (r.strikes.set k ⟨a.id, meetS a.pos s⟩)[j]? = some y := hy
      rw [List.getElem?_set] at hy'
      split at hy'
      · rename_i e
        subst e
        try rw [if_pos hkl] at hy'
        rw [ha] at hx
        cases hx; cases hy'
        exact meet_in _ _
      · exact same j x y hx hy'
  · exact self
  · rename_i hn
    have hkl : t % r.s.stops.length < r.s.stops.length := Nat.mod_lt _ (by omega)
    generalize t % r.s.stops.length = k at hkl
    obtain ⟨a, ha⟩ : ∃ x, r.s.stops[k]? = some x := ⟨_, List.getElem?_eq_getElem hkl⟩
    have ga : r.s.stops.getD k default = a := by rw [List.getD_eq_getElem?_getD, ha]; rfl
    rw [ga]
    exact { self with stops := narS_set _ _ _ _ ha (meet_in _ _) }
  · exact self
  · exact { self with sights := fun y hy => List.mem_append_left _ hy }
theorem law5_ok (r : Rec) (w t : Nat) (hw : w < 256) (ht : t < 256) (sp : Span) : OKv cx 5 [.agg (eRec r), .v (.int .u8 (w : Int)), .v (.int .u8 (t : Int)), .agg (eSpan sp)] (ab true) := by
  have csm := small_ok r
  have c20 := sanity_ok
  cases hsm : smallB r with
  | false =>
    rw [hsm] at csm
    refine OKat.of_body (rs := [8]) Try.func5 rfl (by decide +kernel) rfl (by simp [Try.ntmps5]) ?_
    simp only [Try.ntmps5]
    repeat' first
      | apply AW.seq | apply AW.region | apply AW.ret | apply AW.block | apply AW.skip | apply AW.exit | apply AW.scope | apply AW.label | apply AWL.nil | apply D.nil
      | refine W.draw cx_mixed (by decide +kernel) ?_
      | ((first | (apply W.step cx_ok; decide) | (apply D.step cx_ok; decide; decide) | apply W.store cx_ok | (apply W.gS; rfl; decide) | (apply D.gS; rfl; decide; decide) | apply AW.cond); (simp (disch := omega) only [push_cast, simprocAttr] <;> rfl); all_goals try ((with_reducible intro hI); try first | (cases hI; done) | (simp only [INTS, not_true_eq_false] at hI; try first | (exfalso; omega) | (have hT : True := hI; clear hT hI))))
      | ((first | (apply W.callv cx_ok; decide) | (apply D.callv cx_ok; decide; decide)); (iterate 2 (simp (disch := omega) only [push_cast, simprocAttr] <;> rfl)); (with_reducible first | exact csm | exact c20); try first | rfl | (simp (disch := omega) only [push_cast, simprocAttr] <;> rfl))
      | ((first | apply W.ret1 | apply W.end1); (iterate 2 (try (simp (disch := omega) only [push_cast, simprocAttr] <;> rfl))))

    all_goals (show _ = _; rfl)
  | true =>
    rw [hsm] at csm
    obtain ⟨q1, q2, q3⟩ : r.s.stops.length ≤ 12 ∧ r.strikes.length ≤ 20 ∧ r.sights.length ≤ 20 := by
      unfold smallB at hsm
      simp only [Bool.and_eq_true, decide_eq_true_eq] at hsm
      omega
    have c32 := Known_ok r w t sp ht (by omega) (by omega) (by omega)
    have hnar := known_nar r (w % 8) t sp
    obtain ⟨X, hX⟩ : ∃ z, knownR r (w % 8) t sp = z := ⟨_, rfl⟩
    rw [hX] at c32 hnar
    clear hX
    have hlen : X.strikes.length = r.strikes.length := by
      have := congrArg List.length hnar.ids
      simpa using this
    have c33 := Check_ok r
    have c33x := Check_ok X
    by_cases hc : checkE r = 0
    rotate_left
    · have hcF : (checkE r = 0) = False := eq_false hc
      obtain ⟨E, hE⟩ : ∃ z, checkE r = z := ⟨_, rfl⟩
      rw [hE] at c33 hcF
      refine OKat.of_body (rs := [8]) Try.func5 rfl (by decide +kernel) rfl (by simp [Try.ntmps5]) ?_
      simp only [Try.ntmps5]
      repeat' first
        | apply AW.seq | apply AW.region | apply AW.ret | apply AW.block | apply AW.skip | apply AW.exit | apply AW.scope | apply AW.label | apply AWL.nil | apply D.nil
        | refine W.draw cx_mixed (by decide +kernel) ?_
        | ((first | (apply W.step cx_ok; decide) | (apply D.step cx_ok; decide; decide) | apply W.store cx_ok | (apply W.gS; rfl; decide) | (apply D.gS; rfl; decide; decide) | apply AW.cond); (simp (maxSteps := 1000000) (disch := omega) only [push_cast, simprocAttr, hcF, natNe, List.mem_cons, List.not_mem_nil, TyD.isAgg, Nat.add_assoc, Bool.false_eq_true, Bool.true_and, Bool.and_true, beq_self_eq_true, Bool.and_self] <;> rfl); all_goals try ((with_reducible intro hI); try first | (cases hI; done) | (simp only [INTS, not_true_eq_false] at hI; try first | (exfalso; omega) | (have hT : True := hI; clear hT hI))))
        | ((first | (apply W.callv cx_ok; decide) | (apply D.callv cx_ok; decide; decide)); (iterate 2 (simp (maxSteps := 1000000) (disch := omega) only [push_cast, simprocAttr, hcF, natNe, List.mem_cons, List.not_mem_nil, TyD.isAgg, Nat.add_assoc, Bool.false_eq_true, Bool.true_and, Bool.and_true, beq_self_eq_true, Bool.and_self] <;> rfl)); (with_reducible first | exact csm | exact c20 | exact c32 | exact c33); try first | rfl | (simp (maxSteps := 1000000) (disch := omega) only [push_cast, simprocAttr, hcF, natNe, List.mem_cons, List.not_mem_nil, TyD.isAgg, Nat.add_assoc, Bool.false_eq_true, Bool.true_and, Bool.and_true, beq_self_eq_true, Bool.and_self] <;> rfl))
        | ((first | apply W.ret1 | apply W.end1); (iterate 2 (try (simp (maxSteps := 1000000) (disch := omega) only [push_cast, simprocAttr, hcF, natNe, List.mem_cons, List.not_mem_nil, TyD.isAgg, Nat.add_assoc, Bool.false_eq_true, Bool.true_and, Bool.and_true, beq_self_eq_true, Bool.and_self] <;> rfl))))

      all_goals (show _ = _; rfl)
    rw [hc] at c33
    by_cases hcx : checkE X = 0
    rotate_left
    · have hcF : (checkE X = 0) = False := eq_false hcx
      obtain ⟨E, hE⟩ : ∃ z, checkE X = z := ⟨_, rfl⟩
      rw [hE] at c33x hcF
      refine OKat.of_body (rs := [8]) Try.func5 rfl (by decide +kernel) rfl (by simp [Try.ntmps5]) ?_
      simp only [Try.ntmps5]
      repeat' first
        | apply AW.seq | apply AW.region | apply AW.ret | apply AW.block | apply AW.skip | apply AW.exit | apply AW.scope | apply AW.label | apply AWL.nil | apply D.nil
        | refine W.draw cx_mixed (by decide +kernel) ?_
        | ((first | (apply W.step cx_ok; decide) | (apply D.step cx_ok; decide; decide) | apply W.store cx_ok | (apply W.gS; rfl; decide) | (apply D.gS; rfl; decide; decide) | apply AW.cond); (simp (maxSteps := 1000000) (disch := omega) only [push_cast, simprocAttr, hcF, natNe, List.mem_cons, List.not_mem_nil, TyD.isAgg, Nat.add_assoc, Bool.false_eq_true, Bool.true_and, Bool.and_true, beq_self_eq_true, Bool.and_self] <;> rfl); all_goals try ((with_reducible intro hI); try first | (cases hI; done) | (simp only [INTS, not_true_eq_false] at hI; try first | (exfalso; omega) | (have hT : True := hI; clear hT hI))))
        | ((first | (apply W.callv cx_ok; decide) | (apply D.callv cx_ok; decide; decide)); (iterate 2 (simp (maxSteps := 1000000) (disch := omega) only [push_cast, simprocAttr, hcF, natNe, List.mem_cons, List.not_mem_nil, TyD.isAgg, Nat.add_assoc, Bool.false_eq_true, Bool.true_and, Bool.and_true, beq_self_eq_true, Bool.and_self] <;> rfl)); (with_reducible first | exact csm | exact c20 | exact c32 | exact c33 | exact c33x); try first | rfl | (simp (maxSteps := 1000000) (disch := omega) only [push_cast, simprocAttr, hcF, natNe, List.mem_cons, List.not_mem_nil, TyD.isAgg, Nat.add_assoc, Bool.false_eq_true, Bool.true_and, Bool.and_true, beq_self_eq_true, Bool.and_self] <;> rfl))
        | ((first | apply W.ret1 | apply W.end1); (iterate 2 (try (simp (maxSteps := 1000000) (disch := omega) only [push_cast, simprocAttr, hcF, natNe, List.mem_cons, List.not_mem_nil, TyD.isAgg, Nat.add_assoc, Bool.false_eq_true, Bool.true_and, Bool.and_true, beq_self_eq_true, Bool.and_self] <;> rfl))))

      all_goals (show _ = _; rfl)
    rw [hcx] at c33x
    have c34 := Spans_ok r
    have c34x := Spans_ok X
    have bad : consP X [] = false → OKv cx 34 [.agg (eRec X)] (.tup [.lst [], ai 9]) := fun hq => by
      have hE1 : spansQ X = ([], 9) := by unfold spansQ; rw [if_pos hcx, hq, if_neg (by decide)]
      rw [hE1] at c34x
      exact c34x
    cases hqx : consP X [] with
    | false =>
      have c34x := bad hqx
      cases hq : consP r [] with
      | false =>
        have hE1 : spansQ r = ([], 9) := by unfold spansQ; rw [if_pos hc, hq, if_neg (by decide)]
        rw [hE1] at c34
        have c34 : OKv cx 34 [.agg (eRec r)] (.tup [.lst [], ai 9]) := c34
        refine OKat.of_body (rs := [8]) Try.func5 rfl (by decide +kernel) rfl (by simp [Try.ntmps5]) ?_
        simp only [Try.ntmps5]
        repeat' first
          | apply AW.seq | apply AW.region | apply AW.ret | apply AW.block | apply AW.skip | apply AW.exit | apply AW.scope | apply AW.label | apply AWL.nil | apply D.nil
          | refine W.draw cx_mixed (by decide +kernel) ?_
          | ((first | (apply W.step cx_ok; decide) | (apply D.step cx_ok; decide; decide) | apply W.store cx_ok | (apply W.gS; rfl; decide) | (apply D.gS; rfl; decide; decide) | apply AW.cond); (simp (maxSteps := 1000000) (disch := omega) only [push_cast, simprocAttr, natNe, List.mem_cons, List.not_mem_nil, TyD.isAgg, Nat.add_assoc, Bool.false_eq_true, Bool.true_and, Bool.and_true, beq_self_eq_true, Bool.and_self] <;> rfl); all_goals try ((with_reducible intro hI); try first | (cases hI; done) | (simp only [INTS, not_true_eq_false] at hI; try first | (exfalso; omega) | (have hT : True := hI; clear hT hI))))
          | ((first | (apply W.callv cx_ok; decide) | (apply D.callv cx_ok; decide; decide)); (iterate 2 (simp (maxSteps := 1000000) (disch := omega) only [push_cast, simprocAttr, natNe, List.mem_cons, List.not_mem_nil, TyD.isAgg, Nat.add_assoc, Bool.false_eq_true, Bool.true_and, Bool.and_true, beq_self_eq_true, Bool.and_self] <;> rfl)); (with_reducible first | exact csm | exact c20 | exact c32 | exact c33 | exact c33x | exact c34 | exact c34x); try first | rfl | (simp (maxSteps := 1000000) (disch := omega) only [push_cast, simprocAttr, natNe, List.mem_cons, List.not_mem_nil, TyD.isAgg, Nat.add_assoc, Bool.false_eq_true, Bool.true_and, Bool.and_true, beq_self_eq_true, Bool.and_self] <;> rfl))
          | ((first | apply W.ret1 | apply W.end1); (iterate 2 (try (simp (maxSteps := 1000000) (disch := omega) only [push_cast, simprocAttr, natNe, List.mem_cons, List.not_mem_nil, TyD.isAgg, Nat.add_assoc, Bool.false_eq_true, Bool.true_and, Bool.and_true, beq_self_eq_true, Bool.and_self] <;> rfl))))

        all_goals (show _ = _; rfl)
      | true =>
        have hE1 : spansQ r = (spansP r, 0) := by unfold spansQ; rw [if_pos hc, hq, if_pos rfl]
        obtain ⟨AS, hAS⟩ : ∃ z, spansP r = z := ⟨_, rfl⟩
        rw [hE1, hAS] at c34
        dsimp only at c34
        refine OKat.of_body (rs := [8]) Try.func5 rfl (by decide +kernel) rfl (by simp [Try.ntmps5]) ?_
        simp only [Try.ntmps5]
        repeat' first
          | apply AW.seq | apply AW.region | apply AW.ret | apply AW.block | apply AW.skip | apply AW.exit | apply AW.scope | apply AW.label | apply AWL.nil | apply D.nil
          | refine W.draw cx_mixed (by decide +kernel) ?_
          | ((first | (apply W.step cx_ok; decide) | (apply D.step cx_ok; decide; decide) | apply W.store cx_ok | (apply W.gS; rfl; decide) | (apply D.gS; rfl; decide; decide) | apply AW.cond); (simp (maxSteps := 1000000) (disch := omega) only [push_cast, simprocAttr, natNe, List.mem_cons, List.not_mem_nil, TyD.isAgg, Nat.add_assoc, Bool.false_eq_true, Bool.true_and, Bool.and_true, beq_self_eq_true, Bool.and_self] <;> rfl); all_goals try ((with_reducible intro hI); try first | (cases hI; done) | (simp only [INTS, not_true_eq_false] at hI; try first | (exfalso; omega) | (have hT : True := hI; clear hT hI))))
          | ((first | (apply W.callv cx_ok; decide) | (apply D.callv cx_ok; decide; decide)); (iterate 2 (simp (maxSteps := 1000000) (disch := omega) only [push_cast, simprocAttr, natNe, List.mem_cons, List.not_mem_nil, TyD.isAgg, Nat.add_assoc, Bool.false_eq_true, Bool.true_and, Bool.and_true, beq_self_eq_true, Bool.and_self] <;> rfl)); (with_reducible first | exact csm | exact c20 | exact c32 | exact c33 | exact c33x | exact c34 | exact c34x); try first | rfl | (simp (maxSteps := 1000000) (disch := omega) only [push_cast, simprocAttr, natNe, List.mem_cons, List.not_mem_nil, TyD.isAgg, Nat.add_assoc, Bool.false_eq_true, Bool.true_and, Bool.and_true, beq_self_eq_true, Bool.and_self] <;> rfl))
          | ((first | apply W.ret1 | apply W.end1); (iterate 2 (try (simp (maxSteps := 1000000) (disch := omega) only [push_cast, simprocAttr, natNe, List.mem_cons, List.not_mem_nil, TyD.isAgg, Nat.add_assoc, Bool.false_eq_true, Bool.true_and, Bool.and_true, beq_self_eq_true, Bool.and_self] <;> rfl))))

        all_goals (show _ = _; rfl)
    | true =>
      obtain ⟨hq, e2⟩ := nar_spans hnar hc hcx hqx
      have hE1 : spansQ r = (spansP r, 0) := by unfold spansQ; rw [if_pos hc, hq, if_pos rfl]
      have hE2 : spansQ X = (spansP X, 0) := by unfold spansQ; rw [if_pos hcx, hqx, if_pos rfl]
      have hA : (spansP r).length = r.strikes.length := by unfold spansP; simp
      have hB : (spansP X).length = r.strikes.length := by unfold spansP; simp [hlen]
      rw [hE1] at c34
      rw [hE2] at c34x
      obtain ⟨AS, hAS⟩ : ∃ z, spansP r = z := ⟨_, rfl⟩
      obtain ⟨BS, hBS⟩ : ∃ z, spansP X = z := ⟨_, rfl⟩
      rw [hBS] at c34x hB e2
      rw [hAS] at c34 hA e2
      dsimp only at c34 c34x
      clear hE1 hE2
      refine OKat.of_body (rs := [8]) Try.func5 rfl (by decide +kernel) rfl (by simp [Try.ntmps5]) ?_
      simp only [Try.ntmps5]
      repeat' first
        | apply AW.seq | apply AW.region | apply AW.ret | apply AW.block | apply AW.skip | apply AW.exit | apply AW.scope | apply AW.label | apply AWL.nil | apply D.nil
        | refine W.draw cx_mixed (by decide +kernel) ?_
        | ((first | (apply W.step cx_ok; decide) | (apply D.step cx_ok; decide; decide) | apply W.store cx_ok | (apply W.gS; rfl; decide) | (apply D.gS; rfl; decide; decide) | apply AW.cond); (simp (maxSteps := 1000000) (disch := omega) only [push_cast, simprocAttr, natNe, List.mem_cons, List.not_mem_nil, TyD.isAgg, Nat.add_assoc, Bool.false_eq_true, Bool.true_and, Bool.and_true, beq_self_eq_true, Bool.and_self] <;> rfl); all_goals try ((with_reducible intro hI); try first | (cases hI; done) | (simp only [INTS, not_true_eq_false] at hI; try first | (exfalso; omega) | (have hT : True := hI; clear hT hI))))
        | ((first | (apply W.callv cx_ok; decide) | (apply D.callv cx_ok; decide; decide)); (iterate 2 (simp (maxSteps := 1000000) (disch := omega) only [push_cast, simprocAttr, natNe, List.mem_cons, List.not_mem_nil, TyD.isAgg, Nat.add_assoc, Bool.false_eq_true, Bool.true_and, Bool.and_true, beq_self_eq_true, Bool.and_self] <;> rfl)); (with_reducible first | exact csm | exact c20 | exact c32 | exact c33 | exact c33x | exact c34 | exact c34x); try first | rfl | (simp (maxSteps := 1000000) (disch := omega) only [push_cast, simprocAttr, natNe, List.mem_cons, List.not_mem_nil, TyD.isAgg, Nat.add_assoc, Bool.false_eq_true, Bool.true_and, Bool.and_true, beq_self_eq_true, Bool.and_self] <;> rfl))
        | ((first | apply W.ret1 | apply W.end1); (iterate 2 (try (simp (maxSteps := 1000000) (disch := omega) only [push_cast, simprocAttr, natNe, List.mem_cons, List.not_mem_nil, TyD.isAgg, Nat.add_assoc, Bool.false_eq_true, Bool.true_and, Bool.and_true, beq_self_eq_true, Bool.and_self] <;> rfl))))

      refine AW.loop (fun n s => ∃ (i : Nat), n = r.strikes.length - i ∧ (i ≤ r.strikes.length) ∧ 3 ≤ s.nx ∧ s.tm 4 = .ptr 0 0 0 1 ∧ s.tm 10 = lSpan AS ∧ s.tm 12 = lSpan BS ∧ s.tm 14 = ai i ∧ Pg.rowAt s.H 0 = some { k := 14, es := [eRec r], ty := 30 }) (r.strikes.length) ⟨0, rfl, (Nat.zero_le _), ?_, ?_, ?_, ?_, ?_, ?_⟩ ?_
      iterate 6 (first | (simp (disch := omega) only [push_cast, simprocAttr, natNe, List.mem_cons, List.not_mem_nil, TyD.isAgg, Nat.add_assoc, Bool.false_eq_true, Bool.true_and, Bool.and_true, beq_self_eq_true, Bool.and_self] <;> first | rfl | omega) | omega)
      rintro n0 s0 ⟨i0, hn0, hp00, hnl0, hS0⟩
      by_cases hi : i0 < r.strikes.length
      rotate_left
      · have hiI : ¬ (i0 : Int) < (r.strikes.length : Int) := by omega
        repeat' first
          | apply AW.seq | apply AW.region | apply AW.ret | apply AW.block | apply AW.skip | apply AW.exit | apply AW.scope | apply AW.label | apply AWL.nil | apply D.nil
          | refine W.draw cx_mixed (by decide +kernel) ?_
          | ((first | (apply W.step cx_ok; decide) | (apply D.step cx_ok; decide; decide) | apply W.store cx_ok | (apply W.gS; rfl; decide) | (apply D.gS; rfl; decide; decide) | apply AW.cond); (simp (disch := omega) only [push_cast, simprocAttr, hS0, hiI, natNe, List.mem_cons, List.not_mem_nil, TyD.isAgg, Nat.add_assoc, Bool.false_eq_true, Bool.true_and, Bool.and_true, beq_self_eq_true, Bool.and_self] <;> rfl); all_goals try ((with_reducible intro hI); try first | (cases hI; done) | (simp only [INTS, not_true_eq_false] at hI; try first | (exfalso; omega) | (have hT : True := hI; clear hT hI))))
          | ((first | (apply W.callv cx_ok; decide) | (apply D.callv cx_ok; decide; decide)); (iterate 2 (simp (disch := omega) only [push_cast, simprocAttr, hS0, hiI, natNe, List.mem_cons, List.not_mem_nil, TyD.isAgg, Nat.add_assoc, Bool.false_eq_true, Bool.true_and, Bool.and_true, beq_self_eq_true, Bool.and_self] <;> rfl)); (with_reducible first | exact c20); try first | rfl | (simp (disch := omega) only [push_cast, simprocAttr, hS0, hiI, natNe, List.mem_cons, List.not_mem_nil, TyD.isAgg, Nat.add_assoc, Bool.false_eq_true, Bool.true_and, Bool.and_true, beq_self_eq_true, Bool.and_self] <;> rfl))
          | ((first | apply W.ret1 | apply W.end1); (iterate 2 (try (simp (disch := omega) only [push_cast, simprocAttr, hS0, hiI, natNe, List.mem_cons, List.not_mem_nil, TyD.isAgg, Nat.add_assoc, Bool.false_eq_true, Bool.true_and, Bool.and_true, beq_self_eq_true, Bool.and_self] <;> rfl))))

        all_goals (show _ = _; rfl)
      have hiI : (i0 : Int) < (r.strikes.length : Int) := by omega
      have hAI : (i0 : Int) < (AS.length : Int) := by omega
      have hBI : (i0 : Int) < (BS.length : Int) := by omega
      obtain ⟨A1, B1, y1, y2, y3, y4⟩ := e2 i0 (by omega)
      have cw := Within_true B1 A1 y3 y4
      have v1 : (BS.map eSpan)[i0]? = some (eSpan B1) := by rw [List.getElem?_map, y2]; rfl
      have v2 : (BS.map eSpan).getD i0 [] = eSpan B1 := by rw [List.getD_eq_getElem?_getD, v1]; rfl
      have x1 : (AS.map eSpan)[i0]? = some (eSpan A1) := by rw [List.getElem?_map, y1]; rfl
      have x2 : (AS.map eSpan).getD i0 [] = eSpan A1 := by rw [List.getD_eq_getElem?_getD, x1]; rfl
      repeat' first
        | apply AW.seq | apply AW.region | apply AW.ret | apply AW.block | apply AW.skip | apply AW.exit | apply AW.scope | apply AW.label | apply AWL.nil | apply D.nil
        | refine W.draw cx_mixed (by decide +kernel) ?_
        | ((first | (apply W.step cx_ok; decide) | (apply D.step cx_ok; decide; decide) | apply W.store cx_ok | (apply W.gS; rfl; decide) | (apply D.gS; rfl; decide; decide) | apply AW.cond); (simp (disch := omega) only [push_cast, simprocAttr, hS0, hiI, hAI, hBI, hA, hB, v1, v2, x1, x2, natNe, List.mem_cons, List.not_mem_nil, TyD.isAgg, Nat.add_assoc, Bool.false_eq_true, Bool.true_and, Bool.and_true, beq_self_eq_true, Bool.and_self, Bool.not_true] <;> rfl); all_goals try ((with_reducible intro hI); try first | (cases hI; done) | (simp only [INTS, not_true_eq_false] at hI; try first | (exfalso; omega) | (have hT : True := hI; clear hT hI))))
        | ((first | (apply W.callv cx_ok; decide) | (apply D.callv cx_ok; decide; decide)); (iterate 2 (simp (disch := omega) only [push_cast, simprocAttr, hS0, hiI, hAI, hBI, hA, hB, v1, v2, x1, x2, natNe, List.mem_cons, List.not_mem_nil, TyD.isAgg, Nat.add_assoc, Bool.false_eq_true, Bool.true_and, Bool.and_true, beq_self_eq_true, Bool.and_self, Bool.not_true] <;> rfl)); (with_reducible first | exact cw); try first | rfl | (simp (disch := omega) only [push_cast, simprocAttr, hS0, hiI, hAI, hBI, hA, hB, v1, v2, x1, x2, natNe, List.mem_cons, List.not_mem_nil, TyD.isAgg, Nat.add_assoc, Bool.false_eq_true, Bool.true_and, Bool.and_true, beq_self_eq_true, Bool.and_self, Bool.not_true] <;> rfl))
        | ((first | apply W.ret1 | apply W.end1); (iterate 2 (try (simp (disch := omega) only [push_cast, simprocAttr, hS0, hiI, hAI, hBI, hA, hB, v1, v2, x1, x2, natNe, List.mem_cons, List.not_mem_nil, TyD.isAgg, Nat.add_assoc, Bool.false_eq_true, Bool.true_and, Bool.and_true, beq_self_eq_true, Bool.and_self, Bool.not_true] <;> rfl))))

      all_goals first
        | (exfalso; omega)
        | (refine ⟨r.strikes.length - (i0 + 1), ?_, i0 + 1, rfl, (by omega), ?_, ?_, ?_, ?_, ?_, ?_⟩; (omega); all_goals first | (simp (disch := omega) only [push_cast, simprocAttr, hS0, natNe, List.mem_cons, List.not_mem_nil, TyD.isAgg, Nat.add_assoc, Bool.false_eq_true, Bool.true_and, Bool.and_true, beq_self_eq_true, Bool.and_self, hiI] <;> first | rfl | omega) | omega)
end Go.Proofs.Ks
