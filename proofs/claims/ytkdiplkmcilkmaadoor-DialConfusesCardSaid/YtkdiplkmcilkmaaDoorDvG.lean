/-
  Contracts of functions, proved by going through their code. No conditions.
-/
import Derived.Test.YtkdiplkmcilkmaaDoorDao
import Derived.Test.YtkdiplkmcilkmaaDoorDbb
import Derived.Test.YtkdiplkmcilkmaaDoorDtI
import Derived.Test.YtkdiplkmcilkmaaDoorDtD
set_option linter.unusedVariables false
set_option linter.unusedSimpArgs false
set_option maxHeartbeats 8000000
set_option maxRecDepth 10000
namespace Go.Proofs.Ds
open Go Go.Pg Go.Proofs
theorem rowAt_aftG (H : Nat → Option AO) (ids : List Nat) (r : AV) (j : Nat) : Pg.rowAt (afterH H ids r) j = if flatA r = true then Pg.rowAt H j else if j ∈ ids then (Pg.rowAt H j).map (fun r => { r with fro := true }) else Pg.rowAt H j := by
  unfold afterH
  split
  · rfl
  · have := rowAt_frzG H ids j
    unfold frz' at this
    exact this
theorem law9_ok (hs : OKv cx 19 [] (ab true)) (a b : Key) (i : Ink) : OKv cx 9 [.agg (eKey a), .agg (eKey b), .agg (eInk i)] (ab true) := by
  have hf1 : ∀ m e, flatA (.tup [.agg (eMark m), ab e]) = true := fun _ _ => rfl
  have hf2 : ∀ x, flatA (.v x) = true := fun _ => rfl
  have c1 := Witness_ok a b i
  have c2 := RConfusable_ok a b i
  have c3 := Confusable_ok a b i
  rw [← conf_eq] at c2 c3
  unfold wM at c1
  cases hw : wB a b i with
  | false =>
    rw [hw] at c1 c2 c3
    rw [if_neg Bool.false_ne_true] at c1
    refine OKat.of_body (rs := [6]) Tryd.func9 rfl (by decide +kernel) rfl (by simp [Tryd.ntmps9]) ?_
    simp only [Tryd.ntmps9]
    repeat' first
      | ((first | (apply W.eeN cx_ok; decide) | (apply D.eeN cx_ok; decide; decide)); rfl; rfl; exact E42; (iterate 2 (simp (disch := omega) only [push_cast, simprocAttr, natNe, List.mem_cons, List.not_mem_nil, TyD.isAgg, Nat.add_assoc, List.map_nil, List.length_nil, beq_self_eq_true, St.back, rowAt_aftG, idsL, idsA, idsLL, List.cons_append, List.nil_append, List.append_nil, Option.map_some, Bool.and_self, Bool.and_true, Bool.true_and, Bool.false_and, Bool.and_false, Bool.not_true, Bool.not_false, Bool.false_eq_true, hf1, hf2] <;> rfl)); (simp (disch := omega) only [push_cast, simprocAttr, natNe, List.mem_cons, List.not_mem_nil, TyD.isAgg, Nat.add_assoc, List.map_nil, List.length_nil, beq_self_eq_true, St.back, rowAt_aftG, idsL, idsA, idsLL, List.cons_append, List.nil_append, List.append_nil, Option.map_some, Bool.and_self, Bool.and_true, Bool.true_and, Bool.false_and, Bool.and_false, Bool.not_true, Bool.not_false, Bool.false_eq_true, hf1, hf2, cellsEqN, cellEqN] <;> rfl))
      | apply AW.seq | apply AW.region | apply AW.ret | apply AW.block | apply AW.skip | apply AW.exit | apply AW.scope | apply AW.label | apply AWL.nil
      | ((first | (apply W.step cx_ok; decide) | apply W.store cx_ok | (apply W.gS; rfl; decide) | apply AW.cond); (simp (disch := omega) only [push_cast, simprocAttr, natNe, List.mem_cons, List.not_mem_nil, TyD.isAgg, Nat.add_assoc, List.map_nil, List.length_nil, beq_self_eq_true, St.back, rowAt_aftG, idsL, idsA, idsLL, List.cons_append, List.nil_append, List.append_nil, Option.map_some, Bool.and_self, Bool.and_true, Bool.true_and, Bool.false_and, Bool.and_false, Bool.not_true, Bool.not_false, Bool.false_eq_true, hf1, hf2] <;> rfl); all_goals try ((with_reducible intro hI); try first | (cases hI; done) | (simp only [INTS, not_true_eq_false] at hI; try first | (exfalso; omega) | (have hT : True := hI; clear hT hI))))
      | ((apply W.callv cx_ok; decide); (iterate 2 (simp (disch := omega) only [push_cast, simprocAttr, natNe, List.mem_cons, List.not_mem_nil, TyD.isAgg, Nat.add_assoc, List.map_nil, List.length_nil, beq_self_eq_true, St.back, rowAt_aftG, idsL, idsA, idsLL, List.cons_append, List.nil_append, List.append_nil, Option.map_some, Bool.and_self, Bool.and_true, Bool.true_and, Bool.false_and, Bool.and_false, Bool.not_true, Bool.not_false, Bool.false_eq_true, hf1, hf2] <;> rfl)); (with_reducible first | exact hs | exact c1 | exact c2 | exact c3); try first | rfl | (simp (disch := omega) only [push_cast, simprocAttr, natNe, List.mem_cons, List.not_mem_nil, TyD.isAgg, Nat.add_assoc, List.map_nil, List.length_nil, beq_self_eq_true, St.back, rowAt_aftG, idsL, idsA, idsLL, List.cons_append, List.nil_append, List.append_nil, Option.map_some, Bool.and_self, Bool.and_true, Bool.true_and, Bool.false_and, Bool.and_false, Bool.not_true, Bool.not_false, Bool.false_eq_true, hf1, hf2] <;> rfl))
      | ((first | apply W.ret1 | apply W.end1); (iterate 2 (try (simp (disch := omega) only [push_cast, simprocAttr, natNe, List.mem_cons, List.not_mem_nil, TyD.isAgg, Nat.add_assoc, List.map_nil, List.length_nil, beq_self_eq_true, St.back, rowAt_aftG, idsL, idsA, idsLL, List.cons_append, List.nil_append, List.append_nil, Option.map_some, Bool.and_self, Bool.and_true, Bool.true_and, Bool.false_and, Bool.and_false, Bool.not_true, Bool.not_false, Bool.false_eq_true, hf1, hf2] <;> rfl))))

    all_goals (show _ = _; rfl)
  | true =>
    rw [hw] at c1 c2 c3
    rw [if_pos rfl] at c1
    unfold wB at hw
    rw [Bool.and_eq_true] at hw
    obtain ⟨hc, hw⟩ := hw
    obtain ⟨h1, h2, h3, g⟩ := confV_iff.1 hc
    obtain ⟨_, t1, k3, k4⟩ := keyV_iff.1 h1
    obtain ⟨_, _, k5, k6⟩ := keyV_iff.1 h2
    have l1 : seenW a.pat.toNat b.pat.toNat i.faint.toNat < 4096 := seenW_lt (by omega) (by omega)
    have l2 := drop_lt (p := 4095) (q := seenW a.pat.toNat b.pat.toNat i.faint.toNat) (by omega)
    obtain ⟨p1, p2⟩ := compl l1
    unfold witB at hw
    rw [Bool.and_eq_true] at hw
    obtain ⟨w1, w2⟩ := hw
    have wf : 0 ≤ (witM a b i).seen ∧ (witM a b i).seen ≤ 4095 := ⟨Int.natCast_nonneg _, by unfold witM; dsimp only; omega⟩
    have wg : 0 ≤ (witM a b i).blank ∧ (witM a b i).blank ≤ 4095 := ⟨Int.natCast_nonneg _, by unfold witM; dsimp only; omega⟩
    have c4 := RMark_ok (witM a b i)
    rw [markV_iff.2 ⟨rfl, t1, wf, wg, p1⟩] at c4
    have c5 := Complete_full (witM a b i) wf wg p2
    have c6 := Of_ok a (witM a b i) i ⟨by omega, by omega⟩ wf wg
    have c7 := Of_ok b (witM a b i) i ⟨by omega, by omega⟩ wf wg
    rw [show madeF a (witM a b i) i = true from by unfold madeF; rw [Bool.and_eq_true]; exact ⟨decide_eq_true rfl, w1⟩] at c6
    rw [show madeF b (witM a b i) i = true from by unfold madeF; rw [Bool.and_eq_true]; exact ⟨decide_eq_true g.symm, w2⟩] at c7
    generalize witM a b i = WM at *
    refine OKat.of_body (rs := [6]) Tryd.func9 rfl (by decide +kernel) rfl (by simp [Tryd.ntmps9]) ?_
    simp only [Tryd.ntmps9]
    repeat' first
      | ((first | (apply W.eeN cx_ok; decide) | (apply D.eeN cx_ok; decide; decide)); rfl; rfl; exact E42; (iterate 2 (simp (disch := omega) only [push_cast, simprocAttr, natNe, List.mem_cons, List.not_mem_nil, TyD.isAgg, Nat.add_assoc, List.map_nil, List.length_nil, beq_self_eq_true, St.back, rowAt_aftG, idsL, idsA, idsLL, List.cons_append, List.nil_append, List.append_nil, Option.map_some, Bool.and_self, Bool.and_true, Bool.true_and, Bool.false_and, Bool.and_false, Bool.not_true, Bool.not_false, Bool.false_eq_true, hf1, hf2] <;> rfl)); (simp (disch := omega) only [push_cast, simprocAttr, natNe, List.mem_cons, List.not_mem_nil, TyD.isAgg, Nat.add_assoc, List.map_nil, List.length_nil, beq_self_eq_true, St.back, rowAt_aftG, idsL, idsA, idsLL, List.cons_append, List.nil_append, List.append_nil, Option.map_some, Bool.and_self, Bool.and_true, Bool.true_and, Bool.false_and, Bool.and_false, Bool.not_true, Bool.not_false, Bool.false_eq_true, hf1, hf2, cellsEqN, cellEqN] <;> rfl))
      | apply AW.seq | apply AW.region | apply AW.ret | apply AW.block | apply AW.skip | apply AW.exit | apply AW.scope | apply AW.label | apply AWL.nil
      | ((first | (apply W.step cx_ok; decide) | apply W.store cx_ok | (apply W.gS; rfl; decide) | apply AW.cond); (simp (disch := omega) only [push_cast, simprocAttr, natNe, List.mem_cons, List.not_mem_nil, TyD.isAgg, Nat.add_assoc, List.map_nil, List.length_nil, beq_self_eq_true, St.back, rowAt_aftG, idsL, idsA, idsLL, List.cons_append, List.nil_append, List.append_nil, Option.map_some, Bool.and_self, Bool.and_true, Bool.true_and, Bool.false_and, Bool.and_false, Bool.not_true, Bool.not_false, Bool.false_eq_true, hf1, hf2] <;> rfl); all_goals try ((with_reducible intro hI); try first | (cases hI; done) | (simp only [INTS, not_true_eq_false] at hI; try first | (exfalso; omega) | (have hT : True := hI; clear hT hI))))
      | ((apply W.callv cx_ok; decide); (iterate 2 (simp (disch := omega) only [push_cast, simprocAttr, natNe, List.mem_cons, List.not_mem_nil, TyD.isAgg, Nat.add_assoc, List.map_nil, List.length_nil, beq_self_eq_true, St.back, rowAt_aftG, idsL, idsA, idsLL, List.cons_append, List.nil_append, List.append_nil, Option.map_some, Bool.and_self, Bool.and_true, Bool.true_and, Bool.false_and, Bool.and_false, Bool.not_true, Bool.not_false, Bool.false_eq_true, hf1, hf2] <;> rfl)); (with_reducible first | exact hs | exact c1 | exact c2 | exact c3 | exact c4 | exact c5 | exact c6 | exact c7); try first | rfl | (simp (disch := omega) only [push_cast, simprocAttr, natNe, List.mem_cons, List.not_mem_nil, TyD.isAgg, Nat.add_assoc, List.map_nil, List.length_nil, beq_self_eq_true, St.back, rowAt_aftG, idsL, idsA, idsLL, List.cons_append, List.nil_append, List.append_nil, Option.map_some, Bool.and_self, Bool.and_true, Bool.true_and, Bool.false_and, Bool.and_false, Bool.not_true, Bool.not_false, Bool.false_eq_true, hf1, hf2] <;> rfl))
      | ((first | apply W.ret1 | apply W.end1); (iterate 2 (try (simp (disch := omega) only [push_cast, simprocAttr, natNe, List.mem_cons, List.not_mem_nil, TyD.isAgg, Nat.add_assoc, List.map_nil, List.length_nil, beq_self_eq_true, St.back, rowAt_aftG, idsL, idsA, idsLL, List.cons_append, List.nil_append, List.append_nil, Option.map_some, Bool.and_self, Bool.and_true, Bool.true_and, Bool.false_and, Bool.and_false, Bool.not_true, Bool.not_false, Bool.false_eq_true, hf1, hf2] <;> rfl))))

    all_goals (show _ = _; rfl)
end Go.Proofs.Ds
