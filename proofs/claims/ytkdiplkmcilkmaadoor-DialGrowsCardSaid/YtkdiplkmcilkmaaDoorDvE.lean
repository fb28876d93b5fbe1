/-
  Contracts of functions, proved by going through their code. No conditions.
-/
import Derived.Test.YtkdiplkmcilkmaaDoorDvA
set_option linter.unusedVariables false
set_option linter.unusedSimpArgs false
set_option maxHeartbeats 8000000
set_option maxRecDepth 10000
namespace Go.Proofs.Ds
open Go Go.Pg Go.Proofs
theorem Grow_arg (l : List Arc) (n0 : Int) (hl : l.length ≤ 1099511627776) (hc : checkL l = 0) (hn : ¬ (0 ≤ n0 ∧ n0 ≤ 43200)) : OKv cx 34 [lArc l, ai n0] (.tup [.lst [], ai 1]) := by
  have c1 := acceptable_ok l hl
  rw [hc] at c1
  by_cases g : n0 < 0
  · have hT : (n0 < 0) = True := eq_true g
    refine OKat.of_body (rs := [4, 5]) Tryd.func34 rfl (by decide +kernel) rfl (by simp [Tryd.ntmps34]) ?_
    simp only [Tryd.ntmps34]
    repeat' first
      | apply AW.seq | apply AW.region | apply AW.ret | apply AW.block | apply AW.skip | apply AW.exit | apply AW.scope | apply AW.label | apply AWL.nil
      | ((first | (apply W.step cx_ok; decide) | apply W.store cx_ok | (apply W.gS; rfl; decide) | apply AW.cond); (simp (disch := omega) only [push_cast, simprocAttr, natNe, List.mem_cons, List.not_mem_nil, TyD.isAgg, Nat.add_assoc, List.map_nil, List.length_nil, beq_self_eq_true, Bool.and_self, Bool.and_true, Bool.true_and, Bool.false_and, Bool.and_false, Bool.not_true, Bool.not_false, Bool.false_eq_true, hT] <;> rfl); all_goals try ((with_reducible intro hI); try first | (cases hI; done) | (simp only [INTS, not_true_eq_false] at hI; try first | (exfalso; omega) | (have hT : True := hI; clear hT hI))))
      | ((apply W.callv cx_ok; decide); (iterate 2 (simp (disch := omega) only [push_cast, simprocAttr, natNe, List.mem_cons, List.not_mem_nil, TyD.isAgg, Nat.add_assoc, List.map_nil, List.length_nil, beq_self_eq_true, Bool.and_self, Bool.and_true, Bool.true_and, Bool.false_and, Bool.and_false, Bool.not_true, Bool.not_false, Bool.false_eq_true, hT] <;> rfl)); (with_reducible first | exact c1); try first | rfl | (simp (disch := omega) only [push_cast, simprocAttr, natNe, List.mem_cons, List.not_mem_nil, TyD.isAgg, Nat.add_assoc, List.map_nil, List.length_nil, beq_self_eq_true, Bool.and_self, Bool.and_true, Bool.true_and, Bool.false_and, Bool.and_false, Bool.not_true, Bool.not_false, Bool.false_eq_true, hT] <;> rfl))
      | ((first | apply W.ret2 | apply W.end2); (iterate 2 (try (simp (disch := omega) only [push_cast, simprocAttr, natNe, List.mem_cons, List.not_mem_nil, TyD.isAgg, Nat.add_assoc, List.map_nil, List.length_nil, beq_self_eq_true, Bool.and_self, Bool.and_true, Bool.true_and, Bool.false_and, Bool.and_false, Bool.not_true, Bool.not_false, Bool.false_eq_true, hT] <;> rfl))))

    all_goals (show _ = _; rfl)
  · have hF : (n0 < 0) = False := eq_false g
    have hT : (43200 < n0) = True := eq_true (by omega)
    refine OKat.of_body (rs := [4, 5]) Tryd.func34 rfl (by decide +kernel) rfl (by simp [Tryd.ntmps34]) ?_
    simp only [Tryd.ntmps34]
    repeat' first
      | apply AW.seq | apply AW.region | apply AW.ret | apply AW.block | apply AW.skip | apply AW.exit | apply AW.scope | apply AW.label | apply AWL.nil
      | ((first | (apply W.step cx_ok; decide) | apply W.store cx_ok | (apply W.gS; rfl; decide) | apply AW.cond); (simp (disch := omega) only [push_cast, simprocAttr, natNe, List.mem_cons, List.not_mem_nil, TyD.isAgg, Nat.add_assoc, List.map_nil, List.length_nil, beq_self_eq_true, Bool.and_self, Bool.and_true, Bool.true_and, Bool.false_and, Bool.and_false, Bool.not_true, Bool.not_false, Bool.false_eq_true, hF, hT] <;> rfl); all_goals try ((with_reducible intro hI); try first | (cases hI; done) | (simp only [INTS, not_true_eq_false] at hI; try first | (exfalso; omega) | (have hT : True := hI; clear hT hI))))
      | ((apply W.callv cx_ok; decide); (iterate 2 (simp (disch := omega) only [push_cast, simprocAttr, natNe, List.mem_cons, List.not_mem_nil, TyD.isAgg, Nat.add_assoc, List.map_nil, List.length_nil, beq_self_eq_true, Bool.and_self, Bool.and_true, Bool.true_and, Bool.false_and, Bool.and_false, Bool.not_true, Bool.not_false, Bool.false_eq_true, hF, hT] <;> rfl)); (with_reducible first | exact c1); try first | rfl | (simp (disch := omega) only [push_cast, simprocAttr, natNe, List.mem_cons, List.not_mem_nil, TyD.isAgg, Nat.add_assoc, List.map_nil, List.length_nil, beq_self_eq_true, Bool.and_self, Bool.and_true, Bool.true_and, Bool.false_and, Bool.and_false, Bool.not_true, Bool.not_false, Bool.false_eq_true, hF, hT] <;> rfl))
      | ((first | apply W.ret2 | apply W.end2); (iterate 2 (try (simp (disch := omega) only [push_cast, simprocAttr, natNe, List.mem_cons, List.not_mem_nil, TyD.isAgg, Nat.add_assoc, List.map_nil, List.length_nil, beq_self_eq_true, Bool.and_self, Bool.and_true, Bool.true_and, Bool.false_and, Bool.and_false, Bool.not_true, Bool.not_false, Bool.false_eq_true, hF, hT] <;> rfl))))

    all_goals (show _ = _; rfl)
theorem law7_ok (hs : OKv cx 19 [] (ab true)) (h0 : SortKC0 Tryd.prog 130) (a b : List Arc) (n0 : Int) : OKv cx 7 [lArc a, lArc b, ai n0] (ab true) := by
  have hf1 : ∀ l x, flatA (.tup [.lst l, .v x]) = false := fun _ _ => rfl
  have hf2 : ∀ x y, flatA (.tup [.v x, .v y]) = true := fun _ _ => rfl
  cases ha : fewF a with
  | false =>
    have c1 := few_ok a
    rw [ha] at c1
    refine OKat.of_body (rs := [6]) Tryd.func7 rfl (by decide +kernel) rfl (by simp [Tryd.ntmps7]) ?_
    simp only [Tryd.ntmps7]
    repeat' first
      | apply AW.seq | apply AW.region | apply AW.ret | apply AW.block | apply AW.skip | apply AW.exit | apply AW.scope | apply AW.label | apply AWL.nil
      | ((first | (apply W.step cx_ok; decide) | (apply W.gS; rfl; decide) | apply AW.cond); (simp (disch := omega) only [push_cast, simprocAttr, natNe, List.mem_cons, List.not_mem_nil, TyD.isAgg, Nat.add_assoc, List.map_nil, List.length_nil, beq_self_eq_true, Bool.and_self, Bool.and_true, Bool.true_and, Bool.false_and, Bool.and_false, Bool.not_true, Bool.not_false, Bool.false_eq_true] <;> rfl); all_goals try ((with_reducible intro hI); try first | (cases hI; done) | (simp only [INTS, not_true_eq_false] at hI; try first | (exfalso; omega) | (have hT : True := hI; clear hT hI))))
      | ((apply W.gU; rfl; decide); (simp (disch := omega) only [push_cast, simprocAttr, natNe, List.mem_cons, List.not_mem_nil, TyD.isAgg, Nat.add_assoc, List.map_nil, List.length_nil, beq_self_eq_true, Bool.and_self, Bool.and_true, Bool.true_and, Bool.false_and, Bool.and_false, Bool.not_true, Bool.not_false, Bool.false_eq_true] <;> rfl))
      | ((apply W.callv cx_ok; decide); (iterate 2 (simp (disch := omega) only [push_cast, simprocAttr, natNe, List.mem_cons, List.not_mem_nil, TyD.isAgg, Nat.add_assoc, List.map_nil, List.length_nil, beq_self_eq_true, Bool.and_self, Bool.and_true, Bool.true_and, Bool.false_and, Bool.and_false, Bool.not_true, Bool.not_false, Bool.false_eq_true] <;> rfl)); (with_reducible first | exact hs | exact c1); try first | rfl | (simp (disch := omega) only [push_cast, simprocAttr, natNe, List.mem_cons, List.not_mem_nil, TyD.isAgg, Nat.add_assoc, List.map_nil, List.length_nil, beq_self_eq_true, Bool.and_self, Bool.and_true, Bool.true_and, Bool.false_and, Bool.and_false, Bool.not_true, Bool.not_false, Bool.false_eq_true] <;> rfl))
      | ((first | apply W.ret1 | apply W.end1); (iterate 2 (try (simp (disch := omega) only [push_cast, simprocAttr, natNe, List.mem_cons, List.not_mem_nil, TyD.isAgg, Nat.add_assoc, List.map_nil, List.length_nil, beq_self_eq_true, Bool.and_self, Bool.and_true, Bool.true_and, Bool.false_and, Bool.and_false, Bool.not_true, Bool.not_false, Bool.false_eq_true] <;> rfl))))

    all_goals (show _ = _; rfl)
  | true =>
  cases hb : fewF b with
  | false =>
    have c1 := few_ok a
    have c2 := few_ok b
    rw [ha] at c1
    rw [hb] at c2
    refine OKat.of_body (rs := [6]) Tryd.func7 rfl (by decide +kernel) rfl (by simp [Tryd.ntmps7]) ?_
    simp only [Tryd.ntmps7]
    repeat' first
      | apply AW.seq | apply AW.region | apply AW.ret | apply AW.block | apply AW.skip | apply AW.exit | apply AW.scope | apply AW.label | apply AWL.nil
      | ((first | (apply W.step cx_ok; decide) | (apply W.gS; rfl; decide) | apply AW.cond); (simp (disch := omega) only [push_cast, simprocAttr, natNe, List.mem_cons, List.not_mem_nil, TyD.isAgg, Nat.add_assoc, List.map_nil, List.length_nil, beq_self_eq_true, Bool.and_self, Bool.and_true, Bool.true_and, Bool.false_and, Bool.and_false, Bool.not_true, Bool.not_false, Bool.false_eq_true] <;> rfl); all_goals try ((with_reducible intro hI); try first | (cases hI; done) | (simp only [INTS, not_true_eq_false] at hI; try first | (exfalso; omega) | (have hT : True := hI; clear hT hI))))
      | ((apply W.gU; rfl; decide); (simp (disch := omega) only [push_cast, simprocAttr, natNe, List.mem_cons, List.not_mem_nil, TyD.isAgg, Nat.add_assoc, List.map_nil, List.length_nil, beq_self_eq_true, Bool.and_self, Bool.and_true, Bool.true_and, Bool.false_and, Bool.and_false, Bool.not_true, Bool.not_false, Bool.false_eq_true] <;> rfl))
      | ((apply W.callv cx_ok; decide); (iterate 2 (simp (disch := omega) only [push_cast, simprocAttr, natNe, List.mem_cons, List.not_mem_nil, TyD.isAgg, Nat.add_assoc, List.map_nil, List.length_nil, beq_self_eq_true, Bool.and_self, Bool.and_true, Bool.true_and, Bool.false_and, Bool.and_false, Bool.not_true, Bool.not_false, Bool.false_eq_true] <;> rfl)); (with_reducible first | exact hs | exact c1 | exact c2); try first | rfl | (simp (disch := omega) only [push_cast, simprocAttr, natNe, List.mem_cons, List.not_mem_nil, TyD.isAgg, Nat.add_assoc, List.map_nil, List.length_nil, beq_self_eq_true, Bool.and_self, Bool.and_true, Bool.true_and, Bool.false_and, Bool.and_false, Bool.not_true, Bool.not_false, Bool.false_eq_true] <;> rfl))
      | ((first | apply W.ret1 | apply W.end1); (iterate 2 (try (simp (disch := omega) only [push_cast, simprocAttr, natNe, List.mem_cons, List.not_mem_nil, TyD.isAgg, Nat.add_assoc, List.map_nil, List.length_nil, beq_self_eq_true, Bool.and_self, Bool.and_true, Bool.true_and, Bool.false_and, Bool.and_false, Bool.not_true, Bool.not_false, Bool.false_eq_true] <;> rfl))))

    all_goals (show _ = _; rfl)
  | true =>
  have c1 := few_ok a
  have c2 := few_ok b
  rw [ha] at c1
  rw [hb] at c2
  have la := few_len ha
  have lb := few_len hb
  have c3 := RCheck_ok a (by omega)
  have c4 := Both_ok a b (by omega) (by omega)
  have c5 := In_ok n0 0 43200
  by_cases hi : checkL a = 0
  rotate_left
  · have iF : (checkL a = 0) = False := eq_false hi
    have iB : (checkL a == 0) = false := by simpa using hi
    have hk : bothE a b = checkL a := by unfold bothE; rw [if_pos hi]
    have p1 := Grow_bad a n0 (by omega) hi
    have p2 := Size_bad a (by omega) hi
    have p3 := Covers_bad a b (by omega) (by omega) (by rw [hk]; exact hi)
    rw [hk] at p3 c4
    obtain ⟨I, hI0⟩ : ∃ z, checkL a = z := ⟨_, rfl⟩
    have hi2 : I ≠ 0 := by rw [← hI0]; exact hi
    rw [hI0] at iF iB p1 p2 p3 c3 c4
    clear hk hI0
    refine OKat.of_body (rs := [6]) Tryd.func7 rfl (by decide +kernel) rfl (by simp [Tryd.ntmps7]) ?_
    simp only [Tryd.ntmps7]
    repeat' first
      | apply AW.seq | apply AW.region | apply AW.ret | apply AW.block | apply AW.skip | apply AW.exit | apply AW.scope | apply AW.label | apply AWL.nil
      | ((first | (apply W.step cx_ok; decide) | (apply W.gS; rfl; decide) | apply AW.cond); (simp (disch := omega) only [push_cast, simprocAttr, natNe, List.mem_cons, List.not_mem_nil, TyD.isAgg, Nat.add_assoc, List.map_nil, List.length_nil, beq_self_eq_true, Bool.and_self, Bool.and_true, Bool.true_and, Bool.false_and, Bool.and_false, Bool.not_true, Bool.not_false, Bool.false_eq_true, hf1, hf2, St.back, iF, iB] <;> rfl); all_goals try ((with_reducible intro hI); try first | (cases hI; done) | (simp only [INTS, not_true_eq_false] at hI; try first | (exfalso; omega) | (have hT : True := hI; clear hT hI))))
      | ((apply W.gU; rfl; decide); (simp (disch := omega) only [push_cast, simprocAttr, natNe, List.mem_cons, List.not_mem_nil, TyD.isAgg, Nat.add_assoc, List.map_nil, List.length_nil, beq_self_eq_true, Bool.and_self, Bool.and_true, Bool.true_and, Bool.false_and, Bool.and_false, Bool.not_true, Bool.not_false, Bool.false_eq_true, hf1, hf2, St.back, iF, iB] <;> rfl))
      | ((apply W.callv cx_ok; decide); (iterate 2 (simp (disch := omega) only [push_cast, simprocAttr, natNe, List.mem_cons, List.not_mem_nil, TyD.isAgg, Nat.add_assoc, List.map_nil, List.length_nil, beq_self_eq_true, Bool.and_self, Bool.and_true, Bool.true_and, Bool.false_and, Bool.and_false, Bool.not_true, Bool.not_false, Bool.false_eq_true, hf1, hf2, St.back, iF, iB] <;> rfl)); (with_reducible first | exact hs | exact c1 | exact c2 | exact c3 | exact c4 | exact c5 | exact p1 | exact p2 | exact p3); try first | rfl | (simp (disch := omega) only [push_cast, simprocAttr, natNe, List.mem_cons, List.not_mem_nil, TyD.isAgg, Nat.add_assoc, List.map_nil, List.length_nil, beq_self_eq_true, Bool.and_self, Bool.and_true, Bool.true_and, Bool.false_and, Bool.and_false, Bool.not_true, Bool.not_false, Bool.false_eq_true, hf1, hf2, St.back, iF, iB] <;> rfl))
      | ((first | apply W.ret1 | apply W.end1); (iterate 2 (try (simp (disch := omega) only [push_cast, simprocAttr, natNe, List.mem_cons, List.not_mem_nil, TyD.isAgg, Nat.add_assoc, List.map_nil, List.length_nil, beq_self_eq_true, Bool.and_self, Bool.and_true, Bool.true_and, Bool.false_and, Bool.and_false, Bool.not_true, Bool.not_false, Bool.false_eq_true, hf1, hf2, St.back, iF, iB] <;> rfl))))

    all_goals (show _ = _; rfl)
  obtain ⟨_, va⟩ := checkL_zero hi
  rw [hi] at c3
  have p2 := Size_good h0 a hi
  have q2 := RSize_ok a hi
  generalize sumW (spansS a) = SW at *
  by_cases hn : 0 ≤ n0 ∧ n0 ≤ 43200
  · rw [inF_iff.2 hn] at c5
    have p1 := Grow_good h0 a n0 hi hn
    have q1 := RGrow_ok a n0 hi hn
    have hwv : ∀ x ∈ a.map (fun x => wideF x n0), validA x = true := fun x hx => by
      obtain ⟨y, hy, rfl⟩ := List.mem_map.1 hx
      exact wide_valid (va y hy) hn.1
    obtain ⟨g1, g2, _⟩ := spans_spec hwv
    have n1 : (growL a n0).length ≤ 43200 := arcs_len g1 g2
    generalize growL a n0 = GL at *
    have s1 := SameArcs_same GL (by omega)
    by_cases hb2 : checkL b = 0
    · have hk : bothE a b = 0 := by unfold bothE; rw [if_neg (by simp [hi])]; exact hb2
      have p3 := Covers_good h0 a b hi hb2
      have q3 := RCovers_ok a b hi hb2
      rw [hk] at c4
      generalize coversF a b = CV at *
      refine OKat.of_body (rs := [6]) Tryd.func7 rfl (by decide +kernel) rfl (by simp [Tryd.ntmps7]) ?_
      simp only [Tryd.ntmps7]
      repeat' first
        | apply AW.seq | apply AW.region | apply AW.ret | apply AW.block | apply AW.skip | apply AW.exit | apply AW.scope | apply AW.label | apply AWL.nil
        | ((first | (apply W.step cx_ok; decide) | (apply W.gS; rfl; decide) | apply AW.cond); (simp (disch := omega) only [push_cast, simprocAttr, natNe, List.mem_cons, List.not_mem_nil, TyD.isAgg, Nat.add_assoc, List.map_nil, List.length_nil, beq_self_eq_true, Bool.and_self, Bool.and_true, Bool.true_and, Bool.false_and, Bool.and_false, Bool.not_true, Bool.not_false, Bool.false_eq_true, hf1, hf2, St.back] <;> rfl); all_goals try ((with_reducible intro hI); try first | (cases hI; done) | (simp only [INTS, not_true_eq_false] at hI; try first | (exfalso; omega) | (have hT : True := hI; clear hT hI))))
        | ((apply W.gU; rfl; decide); (simp (disch := omega) only [push_cast, simprocAttr, natNe, List.mem_cons, List.not_mem_nil, TyD.isAgg, Nat.add_assoc, List.map_nil, List.length_nil, beq_self_eq_true, Bool.and_self, Bool.and_true, Bool.true_and, Bool.false_and, Bool.and_false, Bool.not_true, Bool.not_false, Bool.false_eq_true, hf1, hf2, St.back] <;> rfl))
        | ((apply W.callv cx_ok; decide); (iterate 2 (simp (disch := omega) only [push_cast, simprocAttr, natNe, List.mem_cons, List.not_mem_nil, TyD.isAgg, Nat.add_assoc, List.map_nil, List.length_nil, beq_self_eq_true, Bool.and_self, Bool.and_true, Bool.true_and, Bool.false_and, Bool.and_false, Bool.not_true, Bool.not_false, Bool.false_eq_true, hf1, hf2, St.back] <;> rfl)); (with_reducible first | exact hs | exact c1 | exact c2 | exact c3 | exact c4 | exact c5 | exact p1 | exact p2 | exact p3 | exact q1 | exact q2 | exact q3 | exact s1); try first | rfl | (simp (disch := omega) only [push_cast, simprocAttr, natNe, List.mem_cons, List.not_mem_nil, TyD.isAgg, Nat.add_assoc, List.map_nil, List.length_nil, beq_self_eq_true, Bool.and_self, Bool.and_true, Bool.true_and, Bool.false_and, Bool.and_false, Bool.not_true, Bool.not_false, Bool.false_eq_true, hf1, hf2, St.back] <;> rfl))
        | ((first | apply W.ret1 | apply W.end1); (iterate 2 (try (simp (disch := omega) only [push_cast, simprocAttr, natNe, List.mem_cons, List.not_mem_nil, TyD.isAgg, Nat.add_assoc, List.map_nil, List.length_nil, beq_self_eq_true, Bool.and_self, Bool.and_true, Bool.true_and, Bool.false_and, Bool.and_false, Bool.not_true, Bool.not_false, Bool.false_eq_true, hf1, hf2, St.back] <;> rfl))))

      all_goals (show _ = _; rfl)
    · have hk : bothE a b = checkL b := by unfold bothE; rw [if_neg (by simp [hi])]
      have p3 := Covers_bad a b (by omega) (by omega) (by rw [hk]; exact hb2)
      rw [hk] at p3 c4
      obtain ⟨K, hK⟩ : ∃ z, checkL b = z := ⟨_, rfl⟩
      have hk2 : K ≠ 0 := by rw [← hK]; exact hb2
      have kF : (K = 0) = False := eq_false hk2
      have kB : (K == 0) = false := by simpa using hk2
      rw [hK] at p3 c4
      clear hk hK hb2
      refine OKat.of_body (rs := [6]) Tryd.func7 rfl (by decide +kernel) rfl (by simp [Tryd.ntmps7]) ?_
      simp only [Tryd.ntmps7]
      repeat' first
        | apply AW.seq | apply AW.region | apply AW.ret | apply AW.block | apply AW.skip | apply AW.exit | apply AW.scope | apply AW.label | apply AWL.nil
        | ((first | (apply W.step cx_ok; decide) | (apply W.gS; rfl; decide) | apply AW.cond); (simp (disch := omega) only [push_cast, simprocAttr, natNe, List.mem_cons, List.not_mem_nil, TyD.isAgg, Nat.add_assoc, List.map_nil, List.length_nil, beq_self_eq_true, Bool.and_self, Bool.and_true, Bool.true_and, Bool.false_and, Bool.and_false, Bool.not_true, Bool.not_false, Bool.false_eq_true, hf1, hf2, St.back, kF, kB] <;> rfl); all_goals try ((with_reducible intro hI); try first | (cases hI; done) | (simp only [INTS, not_true_eq_false] at hI; try first | (exfalso; omega) | (have hT : True := hI; clear hT hI))))
        | ((apply W.gU; rfl; decide); (simp (disch := omega) only [push_cast, simprocAttr, natNe, List.mem_cons, List.not_mem_nil, TyD.isAgg, Nat.add_assoc, List.map_nil, List.length_nil, beq_self_eq_true, Bool.and_self, Bool.and_true, Bool.true_and, Bool.false_and, Bool.and_false, Bool.not_true, Bool.not_false, Bool.false_eq_true, hf1, hf2, St.back, kF, kB] <;> rfl))
        | ((apply W.callv cx_ok; decide); (iterate 2 (simp (disch := omega) only [push_cast, simprocAttr, natNe, List.mem_cons, List.not_mem_nil, TyD.isAgg, Nat.add_assoc, List.map_nil, List.length_nil, beq_self_eq_true, Bool.and_self, Bool.and_true, Bool.true_and, Bool.false_and, Bool.and_false, Bool.not_true, Bool.not_false, Bool.false_eq_true, hf1, hf2, St.back, kF, kB] <;> rfl)); (with_reducible first | exact hs | exact c1 | exact c2 | exact c3 | exact c4 | exact c5 | exact p1 | exact p2 | exact p3 | exact q1 | exact q2 | exact s1); try first | rfl | (simp (disch := omega) only [push_cast, simprocAttr, natNe, List.mem_cons, List.not_mem_nil, TyD.isAgg, Nat.add_assoc, List.map_nil, List.length_nil, beq_self_eq_true, Bool.and_self, Bool.and_true, Bool.true_and, Bool.false_and, Bool.and_false, Bool.not_true, Bool.not_false, Bool.false_eq_true, hf1, hf2, St.back, kF, kB] <;> rfl))
        | ((first | apply W.ret1 | apply W.end1); (iterate 2 (try (simp (disch := omega) only [push_cast, simprocAttr, natNe, List.mem_cons, List.not_mem_nil, TyD.isAgg, Nat.add_assoc, List.map_nil, List.length_nil, beq_self_eq_true, Bool.and_self, Bool.and_true, Bool.true_and, Bool.false_and, Bool.and_false, Bool.not_true, Bool.not_false, Bool.false_eq_true, hf1, hf2, St.back, kF, kB] <;> rfl))))

      all_goals (show _ = _; rfl)
  · rw [show inF n0 0 43200 = false from Bool.eq_false_iff.2 fun h => hn (inF_iff.1 h)] at c5
    have p1 := Grow_arg a n0 (by omega) hi hn
    by_cases hb2 : checkL b = 0
    · have hk : bothE a b = 0 := by unfold bothE; rw [if_neg (by simp [hi])]; exact hb2
      have p3 := Covers_good h0 a b hi hb2
      have q3 := RCovers_ok a b hi hb2
      rw [hk] at c4
      generalize coversF a b = CV at *
      refine OKat.of_body (rs := [6]) Tryd.func7 rfl (by decide +kernel) rfl (by simp [Tryd.ntmps7]) ?_
      simp only [Tryd.ntmps7]
      repeat' first
        | apply AW.seq | apply AW.region | apply AW.ret | apply AW.block | apply AW.skip | apply AW.exit | apply AW.scope | apply AW.label | apply AWL.nil
        | ((first | (apply W.step cx_ok; decide) | (apply W.gS; rfl; decide) | apply AW.cond); (simp (disch := omega) only [push_cast, simprocAttr, natNe, List.mem_cons, List.not_mem_nil, TyD.isAgg, Nat.add_assoc, List.map_nil, List.length_nil, beq_self_eq_true, Bool.and_self, Bool.and_true, Bool.true_and, Bool.false_and, Bool.and_false, Bool.not_true, Bool.not_false, Bool.false_eq_true, hf1, hf2, St.back] <;> rfl); all_goals try ((with_reducible intro hI); try first | (cases hI; done) | (simp only [INTS, not_true_eq_false] at hI; try first | (exfalso; omega) | (have hT : True := hI; clear hT hI))))
        | ((apply W.gU; rfl; decide); (simp (disch := omega) only [push_cast, simprocAttr, natNe, List.mem_cons, List.not_mem_nil, TyD.isAgg, Nat.add_assoc, List.map_nil, List.length_nil, beq_self_eq_true, Bool.and_self, Bool.and_true, Bool.true_and, Bool.false_and, Bool.and_false, Bool.not_true, Bool.not_false, Bool.false_eq_true, hf1, hf2, St.back] <;> rfl))
        | ((apply W.callv cx_ok; decide); (iterate 2 (simp (disch := omega) only [push_cast, simprocAttr, natNe, List.mem_cons, List.not_mem_nil, TyD.isAgg, Nat.add_assoc, List.map_nil, List.length_nil, beq_self_eq_true, Bool.and_self, Bool.and_true, Bool.true_and, Bool.false_and, Bool.and_false, Bool.not_true, Bool.not_false, Bool.false_eq_true, hf1, hf2, St.back] <;> rfl)); (with_reducible first | exact hs | exact c1 | exact c2 | exact c3 | exact c4 | exact c5 | exact p1 | exact p2 | exact p3 | exact q2 | exact q3); try first | rfl | (simp (disch := omega) only [push_cast, simprocAttr, natNe, List.mem_cons, List.not_mem_nil, TyD.isAgg, Nat.add_assoc, List.map_nil, List.length_nil, beq_self_eq_true, Bool.and_self, Bool.and_true, Bool.true_and, Bool.false_and, Bool.and_false, Bool.not_true, Bool.not_false, Bool.false_eq_true, hf1, hf2, St.back] <;> rfl))
        | ((first | apply W.ret1 | apply W.end1); (iterate 2 (try (simp (disch := omega) only [push_cast, simprocAttr, natNe, List.mem_cons, List.not_mem_nil, TyD.isAgg, Nat.add_assoc, List.map_nil, List.length_nil, beq_self_eq_true, Bool.and_self, Bool.and_true, Bool.true_and, Bool.false_and, Bool.and_false, Bool.not_true, Bool.not_false, Bool.false_eq_true, hf1, hf2, St.back] <;> rfl))))

      all_goals (show _ = _; rfl)
    · have hk : bothE a b = checkL b := by unfold bothE; rw [if_neg (by simp [hi])]
      have p3 := Covers_bad a b (by omega) (by omega) (by rw [hk]; exact hb2)
      rw [hk] at p3 c4
      obtain ⟨K, hK⟩ : ∃ z, checkL b = z := ⟨_, rfl⟩
      have hk2 : K ≠ 0 := by rw [← hK]; exact hb2
      have kF : (K = 0) = False := eq_false hk2
      have kB : (K == 0) = false := by simpa using hk2
      rw [hK] at p3 c4
      clear hk hK hb2
      refine OKat.of_body (rs := [6]) Tryd.func7 rfl (by decide +kernel) rfl (by simp [Tryd.ntmps7]) ?_
      simp only [Tryd.ntmps7]
      repeat' first
        | apply AW.seq | apply AW.region | apply AW.ret | apply AW.block | apply AW.skip | apply AW.exit | apply AW.scope | apply AW.label | apply AWL.nil
        | ((first | (apply W.step cx_ok; decide) | (apply W.gS; rfl; decide) | apply AW.cond); (simp (disch := omega) only [push_cast, simprocAttr, natNe, List.mem_cons, List.not_mem_nil, TyD.isAgg, Nat.add_assoc, List.map_nil, List.length_nil, beq_self_eq_true, Bool.and_self, Bool.and_true, Bool.true_and, Bool.false_and, Bool.and_false, Bool.not_true, Bool.not_false, Bool.false_eq_true, hf1, hf2, St.back, kF, kB] <;> rfl); all_goals try ((with_reducible intro hI); try first | (cases hI; done) | (simp only [INTS, not_true_eq_false] at hI; try first | (exfalso; omega) | (have hT : True := hI; clear hT hI))))
        | ((apply W.gU; rfl; decide); (simp (disch := omega) only [push_cast, simprocAttr, natNe, List.mem_cons, List.not_mem_nil, TyD.isAgg, Nat.add_assoc, List.map_nil, List.length_nil, beq_self_eq_true, Bool.and_self, Bool.and_true, Bool.true_and, Bool.false_and, Bool.and_false, Bool.not_true, Bool.not_false, Bool.false_eq_true, hf1, hf2, St.back, kF, kB] <;> rfl))
        | ((apply W.callv cx_ok; decide); (iterate 2 (simp (disch := omega) only [push_cast, simprocAttr, natNe, List.mem_cons, List.not_mem_nil, TyD.isAgg, Nat.add_assoc, List.map_nil, List.length_nil, beq_self_eq_true, Bool.and_self, Bool.and_true, Bool.true_and, Bool.false_and, Bool.and_false, Bool.not_true, Bool.not_false, Bool.false_eq_true, hf1, hf2, St.back, kF, kB] <;> rfl)); (with_reducible first | exact hs | exact c1 | exact c2 | exact c3 | exact c4 | exact c5 | exact p1 | exact p2 | exact p3 | exact q2); try first | rfl | (simp (disch := omega) only [push_cast, simprocAttr, natNe, List.mem_cons, List.not_mem_nil, TyD.isAgg, Nat.add_assoc, List.map_nil, List.length_nil, beq_self_eq_true, Bool.and_self, Bool.and_true, Bool.true_and, Bool.false_and, Bool.and_false, Bool.not_true, Bool.not_false, Bool.false_eq_true, hf1, hf2, St.back, kF, kB] <;> rfl))
        | ((first | apply W.ret1 | apply W.end1); (iterate 2 (try (simp (disch := omega) only [push_cast, simprocAttr, natNe, List.mem_cons, List.not_mem_nil, TyD.isAgg, Nat.add_assoc, List.map_nil, List.length_nil, beq_self_eq_true, Bool.and_self, Bool.and_true, Bool.true_and, Bool.false_and, Bool.and_false, Bool.not_true, Bool.not_false, Bool.false_eq_true, hf1, hf2, St.back, kF, kB] <;> rfl))))

      all_goals (show _ = _; rfl)
end Go.Proofs.Ds
