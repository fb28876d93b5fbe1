/-
  Contracts of functions, proved by going through their code. No conditions.
-/
import Derived.Test.YtkdiplkmcilkmaaDoorDao
import Derived.Test.YtkdiplkmcilkmaaDoorDay
set_option linter.unusedVariables false
set_option linter.unusedSimpArgs false
set_option maxHeartbeats 8000000
set_option maxRecDepth 10000
namespace Go.Proofs.Ds
open Go Go.Pg Go.Proofs
def blurF (m : Mark) (n u : Int) : Mark := ⟨wideF m.arc n, m.track, dropB m.seen.toNat u.toNat, dropB m.blank.toNat u.toNat⟩
theorem rowAt_aftF (H : Nat → Option AO) (ids : List Nat) (r : AV) (j : Nat) : Pg.rowAt (afterH H ids r) j = if flatA r = true then Pg.rowAt H j else if j ∈ ids then (Pg.rowAt H j).map (fun r => { r with fro := true }) else Pg.rowAt H j := by
  unfold afterH
  split
  · rfl
  · have := rowAt_frzG H ids j
    unfold frz' at this
    exact this
theorem Blur_bad (m : Mark) (n0 u : Int) (h : ¬ (markV m = true ∧ 0 ≤ n0 ∧ n0 ≤ 43200 ∧ 0 ≤ u ∧ u ≤ 4095)) : OKv cx 64 [.agg (eMark m), ai n0, ai u] (.tup [.agg (eMark mark0), ai 1]) := by
  have c1 := CheckMark_ok m
  have c2 := pins_ok u
  cases h1 : markV m with
  | false =>
    rw [h1] at c1
    rw [if_neg Bool.false_ne_true] at c1
    refine OKat.of_bodyM cx_ok (rs := [.cell 6 42, .tmp 7]) Tryd.func64 rfl (by decide +kernel) rfl (by simp [Tryd.ntmps64]) ?_
    simp only [Tryd.ntmps64]
    repeat' first
      | apply AW.seq | apply AW.region | apply AW.ret | apply AW.block | apply AW.skip | apply AW.exit | apply AW.scope | apply AW.label | apply AWL.nil
      | ((first | (apply W.step cx_ok; decide) | apply W.store cx_ok | (apply W.gS; rfl; decide) | apply AW.cond); (simp (disch := omega) only [push_cast, simprocAttr, natNe, List.mem_cons, List.not_mem_nil, TyD.isAgg, Nat.add_assoc, List.map_nil, List.length_nil, Bool.and_self, Bool.and_true, Bool.true_and, Bool.false_and, Bool.and_false, Bool.not_true, Bool.not_false, Bool.false_eq_true] <;> rfl); all_goals try ((with_reducible intro hI); try first | (cases hI; done) | (simp only [INTS, not_true_eq_false] at hI; try first | (exfalso; omega) | (have hT : True := hI; clear hT hI))))
      | ((apply W.callv cx_ok; decide); (iterate 2 (simp (disch := omega) only [push_cast, simprocAttr, natNe, List.mem_cons, List.not_mem_nil, TyD.isAgg, Nat.add_assoc, List.map_nil, List.length_nil, Bool.and_self, Bool.and_true, Bool.true_and, Bool.false_and, Bool.and_false, Bool.not_true, Bool.not_false, Bool.false_eq_true] <;> rfl)); (with_reducible first | exact c1 | exact c2); try first | rfl | (simp (disch := omega) only [push_cast, simprocAttr, natNe, List.mem_cons, List.not_mem_nil, TyD.isAgg, Nat.add_assoc, List.map_nil, List.length_nil, Bool.and_self, Bool.and_true, Bool.true_and, Bool.false_and, Bool.and_false, Bool.not_true, Bool.not_false, Bool.false_eq_true] <;> rfl))
      | ((first | apply W.retM | apply W.endM'); (iterate 2 (try (simp (disch := omega) only [push_cast, simprocAttr, natNe, List.mem_cons, List.not_mem_nil, TyD.isAgg, Nat.add_assoc, List.map_nil, List.length_nil, Bool.and_self, Bool.and_true, Bool.true_and, Bool.false_and, Bool.and_false, Bool.not_true, Bool.not_false, Bool.false_eq_true] <;> rfl))))

    all_goals (show _ = _; rfl)
  | true =>
  rw [h1] at c1
  rw [if_pos rfl] at c1
  by_cases h2 : 0 ≤ n0 ∧ n0 ≤ 43200
  rotate_left
  · by_cases h3 : n0 < 0
    · have g1 := eq_true h3
      refine OKat.of_bodyM cx_ok (rs := [.cell 6 42, .tmp 7]) Tryd.func64 rfl (by decide +kernel) rfl (by simp [Tryd.ntmps64]) ?_
      simp only [Tryd.ntmps64]
      repeat' first
        | apply AW.seq | apply AW.region | apply AW.ret | apply AW.block | apply AW.skip | apply AW.exit | apply AW.scope | apply AW.label | apply AWL.nil
        | ((first | (apply W.step cx_ok; decide) | apply W.store cx_ok | (apply W.gS; rfl; decide) | apply AW.cond); (simp (disch := omega) only [push_cast, simprocAttr, natNe, List.mem_cons, List.not_mem_nil, TyD.isAgg, Nat.add_assoc, List.map_nil, List.length_nil, Bool.and_self, Bool.and_true, Bool.true_and, Bool.false_and, Bool.and_false, Bool.not_true, Bool.not_false, Bool.false_eq_true, g1] <;> rfl); all_goals try ((with_reducible intro hI); try first | (cases hI; done) | (simp only [INTS, not_true_eq_false] at hI; try first | (exfalso; omega) | (have hT : True := hI; clear hT hI))))
        | ((apply W.callv cx_ok; decide); (iterate 2 (simp (disch := omega) only [push_cast, simprocAttr, natNe, List.mem_cons, List.not_mem_nil, TyD.isAgg, Nat.add_assoc, List.map_nil, List.length_nil, Bool.and_self, Bool.and_true, Bool.true_and, Bool.false_and, Bool.and_false, Bool.not_true, Bool.not_false, Bool.false_eq_true, g1] <;> rfl)); (with_reducible first | exact c1 | exact c2); try first | rfl | (simp (disch := omega) only [push_cast, simprocAttr, natNe, List.mem_cons, List.not_mem_nil, TyD.isAgg, Nat.add_assoc, List.map_nil, List.length_nil, Bool.and_self, Bool.and_true, Bool.true_and, Bool.false_and, Bool.and_false, Bool.not_true, Bool.not_false, Bool.false_eq_true, g1] <;> rfl))
        | ((first | apply W.retM | apply W.endM'); (iterate 2 (try (simp (disch := omega) only [push_cast, simprocAttr, natNe, List.mem_cons, List.not_mem_nil, TyD.isAgg, Nat.add_assoc, List.map_nil, List.length_nil, Bool.and_self, Bool.and_true, Bool.true_and, Bool.false_and, Bool.and_false, Bool.not_true, Bool.not_false, Bool.false_eq_true, g1] <;> rfl))))

      all_goals (show _ = _; rfl)
    · have g1 := eq_false h3
      have g2 : (43200 < n0) = True := eq_true (by omega)
      refine OKat.of_bodyM cx_ok (rs := [.cell 6 42, .tmp 7]) Tryd.func64 rfl (by decide +kernel) rfl (by simp [Tryd.ntmps64]) ?_
      simp only [Tryd.ntmps64]
      repeat' first
        | apply AW.seq | apply AW.region | apply AW.ret | apply AW.block | apply AW.skip | apply AW.exit | apply AW.scope | apply AW.label | apply AWL.nil
        | ((first | (apply W.step cx_ok; decide) | apply W.store cx_ok | (apply W.gS; rfl; decide) | apply AW.cond); (simp (disch := omega) only [push_cast, simprocAttr, natNe, List.mem_cons, List.not_mem_nil, TyD.isAgg, Nat.add_assoc, List.map_nil, List.length_nil, Bool.and_self, Bool.and_true, Bool.true_and, Bool.false_and, Bool.and_false, Bool.not_true, Bool.not_false, Bool.false_eq_true, g1, g2] <;> rfl); all_goals try ((with_reducible intro hI); try first | (cases hI; done) | (simp only [INTS, not_true_eq_false] at hI; try first | (exfalso; omega) | (have hT : True := hI; clear hT hI))))
        | ((apply W.callv cx_ok; decide); (iterate 2 (simp (disch := omega) only [push_cast, simprocAttr, natNe, List.mem_cons, List.not_mem_nil, TyD.isAgg, Nat.add_assoc, List.map_nil, List.length_nil, Bool.and_self, Bool.and_true, Bool.true_and, Bool.false_and, Bool.and_false, Bool.not_true, Bool.not_false, Bool.false_eq_true, g1, g2] <;> rfl)); (with_reducible first | exact c1 | exact c2); try first | rfl | (simp (disch := omega) only [push_cast, simprocAttr, natNe, List.mem_cons, List.not_mem_nil, TyD.isAgg, Nat.add_assoc, List.map_nil, List.length_nil, Bool.and_self, Bool.and_true, Bool.true_and, Bool.false_and, Bool.and_false, Bool.not_true, Bool.not_false, Bool.false_eq_true, g1, g2] <;> rfl))
        | ((first | apply W.retM | apply W.endM'); (iterate 2 (try (simp (disch := omega) only [push_cast, simprocAttr, natNe, List.mem_cons, List.not_mem_nil, TyD.isAgg, Nat.add_assoc, List.map_nil, List.length_nil, Bool.and_self, Bool.and_true, Bool.true_and, Bool.false_and, Bool.and_false, Bool.not_true, Bool.not_false, Bool.false_eq_true, g1, g2] <;> rfl))))

      all_goals (show _ = _; rfl)
  have g1 : (n0 < 0) = False := eq_false (by omega)
  have g2 : (43200 < n0) = False := eq_false (by omega)
  cases h4 : inF u 0 4095 with
  | false =>
    rw [h4] at c2
    refine OKat.of_bodyM cx_ok (rs := [.cell 6 42, .tmp 7]) Tryd.func64 rfl (by decide +kernel) rfl (by simp [Tryd.ntmps64]) ?_
    simp only [Tryd.ntmps64]
    repeat' first
      | apply AW.seq | apply AW.region | apply AW.ret | apply AW.block | apply AW.skip | apply AW.exit | apply AW.scope | apply AW.label | apply AWL.nil
      | ((first | (apply W.step cx_ok; decide) | apply W.store cx_ok | (apply W.gS; rfl; decide) | apply AW.cond); (simp (disch := omega) only [push_cast, simprocAttr, natNe, List.mem_cons, List.not_mem_nil, TyD.isAgg, Nat.add_assoc, List.map_nil, List.length_nil, Bool.and_self, Bool.and_true, Bool.true_and, Bool.false_and, Bool.and_false, Bool.not_true, Bool.not_false, Bool.false_eq_true, g1, g2] <;> rfl); all_goals try ((with_reducible intro hI); try first | (cases hI; done) | (simp only [INTS, not_true_eq_false] at hI; try first | (exfalso; omega) | (have hT : True := hI; clear hT hI))))
      | ((apply W.callv cx_ok; decide); (iterate 2 (simp (disch := omega) only [push_cast, simprocAttr, natNe, List.mem_cons, List.not_mem_nil, TyD.isAgg, Nat.add_assoc, List.map_nil, List.length_nil, Bool.and_self, Bool.and_true, Bool.true_and, Bool.false_and, Bool.and_false, Bool.not_true, Bool.not_false, Bool.false_eq_true, g1, g2] <;> rfl)); (with_reducible first | exact c1 | exact c2); try first | rfl | (simp (disch := omega) only [push_cast, simprocAttr, natNe, List.mem_cons, List.not_mem_nil, TyD.isAgg, Nat.add_assoc, List.map_nil, List.length_nil, Bool.and_self, Bool.and_true, Bool.true_and, Bool.false_and, Bool.and_false, Bool.not_true, Bool.not_false, Bool.false_eq_true, g1, g2] <;> rfl))
      | ((first | apply W.retM | apply W.endM'); (iterate 2 (try (simp (disch := omega) only [push_cast, simprocAttr, natNe, List.mem_cons, List.not_mem_nil, TyD.isAgg, Nat.add_assoc, List.map_nil, List.length_nil, Bool.and_self, Bool.and_true, Bool.true_and, Bool.false_and, Bool.and_false, Bool.not_true, Bool.not_false, Bool.false_eq_true, g1, g2] <;> rfl))))

    all_goals (show _ = _; rfl)
  | true =>
  rw [h4] at c2
  exact absurd ⟨h1, h2.1, h2.2, inF_iff.1 h4⟩ h
theorem Blur_good (m : Mark) (n0 u : Int) (h : (markV m = true ∧ 0 ≤ n0 ∧ n0 ≤ 43200 ∧ 0 ≤ u ∧ u ≤ 4095)) : OKv cx 64 [.agg (eMark m), ai n0, ai u] (.tup [.agg (eMark (blurF m n0 u)), ai 0]) := by
  have c1 := CheckMark_ok m
  have c2 := pins_ok u
  obtain ⟨h1, n1, n2, u1, u2⟩ := h
  obtain ⟨va, _, ms, mb, _⟩ := markV_iff.1 h1
  rw [h1] at c1
  rw [if_pos rfl] at c1
  rw [inF_iff.2 ⟨u1, u2⟩] at c2
  have g1 : (n0 < 0) = False := eq_false (by omega)
  have g2 : (43200 < n0) = False := eq_false (by omega)
  have e1 : (u.toNat : Int) = u := Int.toNat_of_nonneg u1
  have e2 : (m.seen.toNat : Int) = m.seen := Int.toNat_of_nonneg ms.1
  have e3 : (m.blank.toNat : Int) = m.blank := Int.toNat_of_nonneg mb.1
  have a1 := andNotI (p := m.seen.toNat) (q := u.toNat) (by omega) (by omega)
  have a2 := andNotI (p := m.blank.toNat) (q := u.toNat) (by omega) (by omega)
  rw [e2, e1] at a1
  rw [e3, e1] at a2
  have c3 := grown_ok m.arc n0 va ⟨n1, n2⟩
  unfold blurF
  generalize wideF m.arc n0 = WA at *
  generalize dropB m.seen.toNat u.toNat = DS at *
  generalize dropB m.blank.toNat u.toNat = DB at *
  have hf1 : ∀ l x, flatA (.tup [.lst l, .v x]) = false := fun _ _ => rfl
  have hf2 : ∀ l, flatA (.lst l) = false := fun _ => rfl
  have hf3 : ∀ x, flatA (.v x) = true := fun _ => rfl
  have hf4 : ∀ x y, flatA (.agg [.v x, .v y]) = true := fun _ _ => rfl
  refine OKat.of_bodyM cx_ok (rs := [.cell 6 42, .tmp 7]) Tryd.func64 rfl (by decide +kernel) rfl (by simp [Tryd.ntmps64]) ?_
  simp only [Tryd.ntmps64]
  repeat' first
    | apply AW.seq | apply AW.region | apply AW.ret | apply AW.block | apply AW.skip | apply AW.exit | apply AW.scope | apply AW.label | apply AWL.nil
    | ((first | (apply W.step cx_ok; decide) | apply W.store cx_ok | (apply W.gS; rfl; decide) | apply AW.cond); (simp (disch := omega) only [push_cast, simprocAttr, natNe, List.mem_cons, List.not_mem_nil, TyD.isAgg, Nat.add_assoc, List.map_nil, List.length_nil, Bool.and_self, Bool.and_true, Bool.true_and, Bool.false_and, Bool.and_false, Bool.not_true, Bool.not_false, Bool.false_eq_true, rowAt_aftF, St.back, idsL, idsA, idsLL, List.cons_append, List.nil_append, List.append_nil, Option.map_some, hf1, hf2, hf3, hf4, a1, a2, e1, e2, e3, g1, g2] <;> rfl); all_goals try ((with_reducible intro hI); try first | (cases hI; done) | (simp only [INTS, not_true_eq_false] at hI; try first | (exfalso; omega) | (have hT : True := hI; clear hT hI))))
    | ((apply W.callv cx_ok; decide); (iterate 2 (simp (disch := omega) only [push_cast, simprocAttr, natNe, List.mem_cons, List.not_mem_nil, TyD.isAgg, Nat.add_assoc, List.map_nil, List.length_nil, Bool.and_self, Bool.and_true, Bool.true_and, Bool.false_and, Bool.and_false, Bool.not_true, Bool.not_false, Bool.false_eq_true, rowAt_aftF, St.back, idsL, idsA, idsLL, List.cons_append, List.nil_append, List.append_nil, Option.map_some, hf1, hf2, hf3, hf4, a1, a2, e1, e2, e3, g1, g2] <;> rfl)); (with_reducible first | exact c1 | exact c2 | exact c3); try first | rfl | (simp (disch := omega) only [push_cast, simprocAttr, natNe, List.mem_cons, List.not_mem_nil, TyD.isAgg, Nat.add_assoc, List.map_nil, List.length_nil, Bool.and_self, Bool.and_true, Bool.true_and, Bool.false_and, Bool.and_false, Bool.not_true, Bool.not_false, Bool.false_eq_true, rowAt_aftF, St.back, idsL, idsA, idsLL, List.cons_append, List.nil_append, List.append_nil, Option.map_some, hf1, hf2, hf3, hf4, a1, a2, e1, e2, e3, g1, g2] <;> rfl))
    | ((first | apply W.retM | apply W.endM'); (iterate 2 (try (simp (disch := omega) only [push_cast, simprocAttr, natNe, List.mem_cons, List.not_mem_nil, TyD.isAgg, Nat.add_assoc, List.map_nil, List.length_nil, Bool.and_self, Bool.and_true, Bool.true_and, Bool.false_and, Bool.and_false, Bool.not_true, Bool.not_false, Bool.false_eq_true, rowAt_aftF, St.back, idsL, idsA, idsLL, List.cons_append, List.nil_append, List.append_nil, Option.map_some, hf1, hf2, hf3, hf4, a1, a2, e1, e2, e3, g1, g2] <;> rfl))))

  all_goals (show _ = _; rfl)
end Go.Proofs.Ds
