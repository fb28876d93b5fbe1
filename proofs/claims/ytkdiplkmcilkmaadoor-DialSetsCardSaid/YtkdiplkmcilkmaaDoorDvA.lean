/-
  Contracts of functions, proved by going through their code. No conditions.
-/
import Derived.Test.YtkdiplkmcilkmaaDoorDao
import Derived.Test.YtkdiplkmcilkmaaDoorDau
import Derived.Test.YtkdiplkmcilkmaaDoorDav
import Derived.Test.YtkdiplkmcilkmaaDoorDtC
set_option linter.unusedVariables false
set_option linter.unusedSimpArgs false
set_option maxHeartbeats 8000000
set_option maxRecDepth 10000
namespace Go.Proofs.Ds
open Go Go.Pg Go.Proofs
def fewF (l : List Arc) : Bool := decide ((l.length : Int) ≤ 60) || (decide (200 < (l.length : Int)) && decide ((l.length : Int) ≤ 300))
theorem few_ok (l : List Arc) : OKv cx 18 [lArc l] (ab (fewF l)) := by
  unfold fewF
  by_cases h1 : (l.length : Int) ≤ 60
  · have h1T : ((l.length : Int) ≤ 60) = True := eq_true h1
    rw [decide_eq_true h1, Bool.true_or]
    refine OKat.of_body (rs := [2]) Tryd.func18 rfl (by decide +kernel) rfl (by simp [Tryd.ntmps18]) ?_
    simp only [Tryd.ntmps18]
    repeat' first
      | apply AW.seq | apply AW.region | apply AW.ret | apply AW.block | apply AW.skip | apply AW.exit | apply AW.scope | apply AW.label | apply AWL.nil
      | ((first | (apply W.step cx_ok; decide) | (apply W.gS; rfl; decide) | apply AW.cond); (simp (disch := omega) only [push_cast, simprocAttr, natNe, List.mem_cons, List.not_mem_nil, TyD.isAgg, Nat.add_assoc, List.map_nil, List.length_nil, beq_self_eq_true, Bool.and_self, Bool.and_true, Bool.true_and, Bool.false_and, Bool.and_false, Bool.not_true, Bool.not_false, Bool.false_eq_true, h1T] <;> rfl); all_goals try ((with_reducible intro hI); try first | (cases hI; done) | (simp only [INTS, not_true_eq_false] at hI; try first | (exfalso; omega) | (have hT : True := hI; clear hT hI))))
      | ((apply W.gU; rfl; decide); (simp (disch := omega) only [push_cast, simprocAttr, natNe, List.mem_cons, List.not_mem_nil, TyD.isAgg, Nat.add_assoc, List.map_nil, List.length_nil, beq_self_eq_true, Bool.and_self, Bool.and_true, Bool.true_and, Bool.false_and, Bool.and_false, Bool.not_true, Bool.not_false, Bool.false_eq_true, h1T] <;> rfl))
      | ((first | apply W.ret1 | apply W.end1); (iterate 2 (try (simp (disch := omega) only [push_cast, simprocAttr, natNe, List.mem_cons, List.not_mem_nil, TyD.isAgg, Nat.add_assoc, List.map_nil, List.length_nil, beq_self_eq_true, Bool.and_self, Bool.and_true, Bool.true_and, Bool.false_and, Bool.and_false, Bool.not_true, Bool.not_false, Bool.false_eq_true, h1T] <;> rfl))))

    all_goals (show _ = _; rfl)
  have h1F : ((l.length : Int) ≤ 60) = False := eq_false h1
  rw [decide_eq_false h1, Bool.false_or]
  by_cases h2 : 200 < (l.length : Int)
  · have h2T : (200 < (l.length : Int)) = True := eq_true h2
    rw [decide_eq_true h2, Bool.true_and]
    refine OKat.of_body (rs := [2]) Tryd.func18 rfl (by decide +kernel) rfl (by simp [Tryd.ntmps18]) ?_
    simp only [Tryd.ntmps18]
    repeat' first
      | apply AW.seq | apply AW.region | apply AW.ret | apply AW.block | apply AW.skip | apply AW.exit | apply AW.scope | apply AW.label | apply AWL.nil
      | ((first | (apply W.step cx_ok; decide) | (apply W.gS; rfl; decide) | apply AW.cond); (simp (disch := omega) only [push_cast, simprocAttr, natNe, List.mem_cons, List.not_mem_nil, TyD.isAgg, Nat.add_assoc, List.map_nil, List.length_nil, beq_self_eq_true, Bool.and_self, Bool.and_true, Bool.true_and, Bool.false_and, Bool.and_false, Bool.not_true, Bool.not_false, Bool.false_eq_true, h1F, h2T] <;> rfl); all_goals try ((with_reducible intro hI); try first | (cases hI; done) | (simp only [INTS, not_true_eq_false] at hI; try first | (exfalso; omega) | (have hT : True := hI; clear hT hI))))
      | ((apply W.gU; rfl; decide); (simp (disch := omega) only [push_cast, simprocAttr, natNe, List.mem_cons, List.not_mem_nil, TyD.isAgg, Nat.add_assoc, List.map_nil, List.length_nil, beq_self_eq_true, Bool.and_self, Bool.and_true, Bool.true_and, Bool.false_and, Bool.and_false, Bool.not_true, Bool.not_false, Bool.false_eq_true, h1F, h2T] <;> rfl))
      | ((first | apply W.ret1 | apply W.end1); (iterate 2 (try (simp (disch := omega) only [push_cast, simprocAttr, natNe, List.mem_cons, List.not_mem_nil, TyD.isAgg, Nat.add_assoc, List.map_nil, List.length_nil, beq_self_eq_true, Bool.and_self, Bool.and_true, Bool.true_and, Bool.false_and, Bool.and_false, Bool.not_true, Bool.not_false, Bool.false_eq_true, h1F, h2T] <;> rfl))))

    all_goals (show _ = _; rfl)
  · have h2F : (200 < (l.length : Int)) = False := eq_false h2
    rw [decide_eq_false h2, Bool.false_and]
    refine OKat.of_body (rs := [2]) Tryd.func18 rfl (by decide +kernel) rfl (by simp [Tryd.ntmps18]) ?_
    simp only [Tryd.ntmps18]
    repeat' first
      | apply AW.seq | apply AW.region | apply AW.ret | apply AW.block | apply AW.skip | apply AW.exit | apply AW.scope | apply AW.label | apply AWL.nil
      | ((first | (apply W.step cx_ok; decide) | (apply W.gS; rfl; decide) | apply AW.cond); (simp (disch := omega) only [push_cast, simprocAttr, natNe, List.mem_cons, List.not_mem_nil, TyD.isAgg, Nat.add_assoc, List.map_nil, List.length_nil, beq_self_eq_true, Bool.and_self, Bool.and_true, Bool.true_and, Bool.false_and, Bool.and_false, Bool.not_true, Bool.not_false, Bool.false_eq_true, h1F, h2F] <;> rfl); all_goals try ((with_reducible intro hI); try first | (cases hI; done) | (simp only [INTS, not_true_eq_false] at hI; try first | (exfalso; omega) | (have hT : True := hI; clear hT hI))))
      | ((apply W.gU; rfl; decide); (simp (disch := omega) only [push_cast, simprocAttr, natNe, List.mem_cons, List.not_mem_nil, TyD.isAgg, Nat.add_assoc, List.map_nil, List.length_nil, beq_self_eq_true, Bool.and_self, Bool.and_true, Bool.true_and, Bool.false_and, Bool.and_false, Bool.not_true, Bool.not_false, Bool.false_eq_true, h1F, h2F] <;> rfl))
      | ((first | apply W.ret1 | apply W.end1); (iterate 2 (try (simp (disch := omega) only [push_cast, simprocAttr, natNe, List.mem_cons, List.not_mem_nil, TyD.isAgg, Nat.add_assoc, List.map_nil, List.length_nil, beq_self_eq_true, Bool.and_self, Bool.and_true, Bool.true_and, Bool.false_and, Bool.and_false, Bool.not_true, Bool.not_false, Bool.false_eq_true, h1F, h2F] <;> rfl))))

    all_goals (show _ = _; rfl)
theorem arcs_len {l : List Span} (hc : canon l) (hi : inC l) : (arcsF l).length ≤ 43200 := by
  have h := inC_len hc hi
  have : ∀ (h : Int) (m : List Span), (bumpF h m).length = m.length := by
    intro h m
    induction m with
    | nil => rfl
    | cons x m ih => rw [bumpF_cons, List.length_cons, List.length_cons, ih]
  unfold arcsF
  split
  · rw [this, List.length_drop]; omega
  · rw [List.length_map]; omega
theorem both_zero {a b : List Arc} (h : bothE a b = 0) : checkL a = 0 ∧ checkL b = 0 := by
  unfold bothE at h
  by_cases g : checkL a = 0
  · rw [if_neg (by simp [g])] at h; exact ⟨g, h⟩
  · rw [if_pos g] at h; exact absurd h g
theorem few_len {l : List Arc} (h : fewF l = true) : l.length ≤ 300 := by
  unfold fewF at h
  simp only [Bool.or_eq_true, Bool.and_eq_true, decide_eq_true_eq] at h
  omega
theorem law3_ok (hs : OKv cx 19 [] (ab true)) (h0 : SortKC0 Tryd.prog 130) (a b : List Arc) : OKv cx 3 [lArc a, lArc b] (ab true) := by
  have hf1 : ∀ l x, flatA (.tup [.lst l, .v x]) = false := fun _ _ => rfl
  have hf2 : ∀ x y, flatA (.tup [.v x, .v y]) = true := fun _ _ => rfl
  cases ha : fewF a with
  | false =>
    have c1 := few_ok a
    rw [ha] at c1
    refine OKat.of_body (rs := [4]) Tryd.func3 rfl (by decide +kernel) rfl (by simp [Tryd.ntmps3]) ?_
    simp only [Tryd.ntmps3]
    repeat' first
      | apply AW.seq | apply AW.region | apply AW.ret | apply AW.block | apply AW.skip | apply AW.exit | apply AW.scope | apply AW.label | apply AWL.nil
      | ((first | (apply W.step cx_ok; decide) | (apply W.gS; rfl; decide) | apply AW.cond); (simp (disch := omega) only [push_cast, simprocAttr, natNe, List.mem_cons, List.not_mem_nil, TyD.isAgg, Nat.add_assoc, List.map_nil, List.length_nil, beq_self_eq_true, Bool.and_self, Bool.and_true, Bool.true_and, Bool.false_and, Bool.and_false, Bool.not_true, Bool.not_false, Bool.false_eq_true] <;> rfl); all_goals try ((with_reducible intro hI); try first | (cases hI; done) | (simp only [INTS, not_true_eq_false] at hI; try first | (exfalso; omega) | (have hT : True := hI; clear hT hI))))
      | ((apply W.gU; rfl; decide); (simp (disch := omega) only [push_cast, simprocAttr, natNe, List.mem_cons, List.not_mem_nil, TyD.isAgg, Nat.add_assoc, List.map_nil, List.length_nil, beq_self_eq_true, Bool.and_self, Bool.and_true, Bool.true_and, Bool.false_and, Bool.and_false, Bool.not_true, Bool.not_false, Bool.false_eq_true] <;> rfl))
      | ((apply W.callv cx_ok; decide); (iterate 2 (simp (disch := omega) only [push_cast, simprocAttr, natNe, List.mem_cons, List.not_mem_nil, TyD.isAgg, Nat.add_assoc, List.map_nil, List.length_nil, beq_self_eq_true, Bool.and_self, Bool.and_true, Bool.true_and, Bool.false_and, Bool.and_false, Bool.not_true, Bool.not_false, Bool.false_eq_true] <;> rfl)); (with_reducible first | exact hs | exact c1); try first | rfl | (simp (disch := omega) only [push_cast, simprocAttr, natNe, List.mem_cons, List.not_mem_nil, TyD.isAgg, Nat.add_assoc, List.map_nil, List.length_nil, beq_self_eq_true, Bool.and_self, Bool.and_true, Bool.true_and, Bool.false_and, Bool.and_false, Bool.not_true, Bool.not_false, Bool.false_eq_true] <;> rfl))
      | ((first | apply W.ret1 | apply W.end1); (iterate 2 (try (simp (disch := omega) only [push_cast, simprocAttr, natNe, List.mem_cons, List.not_mem_nil, TyD.isAgg, Nat.add_assoc, List.map_nil, List.length_nil, beq_self_eq_true, Bool.and_self, Bool.and_true, Bool.true_and, Bool.false_and, Bool.and_false, Bool.not_true, Bool.not_false, Bool.false_eq_true] <;> rfl))))

    all_goals (show _ = _; rfl)
  | true =>
  cases hb : fewF b with
  | false =>
    have c1 := few_ok a
    have c2 := few_ok b
    rw [ha] at c1
    rw [hb] at c2
    refine OKat.of_body (rs := [4]) Tryd.func3 rfl (by decide +kernel) rfl (by simp [Tryd.ntmps3]) ?_
    simp only [Tryd.ntmps3]
    repeat' first
      | apply AW.seq | apply AW.region | apply AW.ret | apply AW.block | apply AW.skip | apply AW.exit | apply AW.scope | apply AW.label | apply AWL.nil
      | ((first | (apply W.step cx_ok; decide) | (apply W.gS; rfl; decide) | apply AW.cond); (simp (disch := omega) only [push_cast, simprocAttr, natNe, List.mem_cons, List.not_mem_nil, TyD.isAgg, Nat.add_assoc, List.map_nil, List.length_nil, beq_self_eq_true, Bool.and_self, Bool.and_true, Bool.true_and, Bool.false_and, Bool.and_false, Bool.not_true, Bool.not_false, Bool.false_eq_true] <;> rfl); all_goals try ((with_reducible intro hI); try first | (cases hI; done) | (simp only [INTS, not_true_eq_false] at hI; try first | (exfalso; omega) | (have hT : True := hI; clear hT hI))))
      | ((apply W.gU; rfl; decide); (simp (disch := omega) only [push_cast, simprocAttr, natNe, List.mem_cons, List.not_mem_nil, TyD.isAgg, Nat.add_assoc, List.map_nil, List.length_nil, beq_self_eq_true, Bool.and_self, Bool.and_true, Bool.true_and, Bool.false_and, Bool.and_false, Bool.not_true, Bool.not_false, Bool.false_eq_true] <;> rfl))
      | ((apply W.callv cx_ok; decide); (iterate 2 (simp (disch := omega) only [push_cast, simprocAttr, natNe, List.mem_cons, List.not_mem_nil, TyD.isAgg, Nat.add_assoc, List.map_nil, List.length_nil, beq_self_eq_true, Bool.and_self, Bool.and_true, Bool.true_and, Bool.false_and, Bool.and_false, Bool.not_true, Bool.not_false, Bool.false_eq_true] <;> rfl)); (with_reducible first | exact hs | exact c1 | exact c2); try first | rfl | (simp (disch := omega) only [push_cast, simprocAttr, natNe, List.mem_cons, List.not_mem_nil, TyD.isAgg, Nat.add_assoc, List.map_nil, List.length_nil, beq_self_eq_true, Bool.and_self, Bool.and_true, Bool.true_and, Bool.false_and, Bool.and_false, Bool.not_true, Bool.not_false, Bool.false_eq_true] <;> rfl))
      | ((first | apply W.ret1 | apply W.end1); (iterate 2 (try (simp (disch := omega) only [push_cast, simprocAttr, natNe, List.mem_cons, List.not_mem_nil, TyD.isAgg, Nat.add_assoc, List.map_nil, List.length_nil, beq_self_eq_true, Bool.and_self, Bool.and_true, Bool.true_and, Bool.false_and, Bool.and_false, Bool.not_true, Bool.not_false, Bool.false_eq_true] <;> rfl))))

    all_goals (show _ = _; rfl)
  | true =>
  have c1 := few_ok a
  have c2 := few_ok b
  rw [ha] at c1
  rw [hb] at c2
  have la := few_len ha
  have lb := few_len hb
  have c3 := RCheck_ok a (by omega)
  have c4 := Both_ok a b (by omega) (by omega)
  by_cases hk : bothE a b = 0
  ·
    obtain ⟨ea, eb⟩ := both_zero hk
    obtain ⟨_, va⟩ := checkL_zero ea
    obtain ⟨_, vb⟩ := checkL_zero eb
    obtain ⟨a1, a2, _⟩ := spans_spec va
    obtain ⟨b1, b2, _⟩ := spans_spec vb
    obtain ⟨u1, u2, _⟩ := spans_spec (l := a ++ b) fun x hx => (List.mem_append.1 hx).elim (va x) (vb x)
    obtain ⟨m1, mm⟩ := meet_spec a1 b1
    have m2 : inC (meetF (spansS a) (spansS b)) := inC_of_mem m1 fun z hz => mem_inC a2 ((mm z).1 hz).1
    obtain ⟨r1, r2, _⟩ := restS_spec b1 b2
    obtain ⟨d1, dm⟩ := meet_spec a1 r1
    have d2 : inC (meetF (spansS a) (restS (spansS b))) := inC_of_mem d1 fun z hz => mem_inC a2 ((dm z).1 hz).1
    have n1 := arcs_len a1 a2
    have n2 := arcs_len u1 u2
    have n3 := arcs_len m1 m2
    have n4 := arcs_len d1 d2
    rw [ea] at c3
    rw [hk] at c4
    have p1 := Normal_good h0 a ea
    have p2 := Union_good h0 a b ea eb
    have p3 := Meet_good h0 a b ea eb
    have p4 := Minus_good h0 a b ea eb
    have q1 := RNormal_ok a ea
    have q2 := RUnion_ok a b ea eb
    have q3 := RMeet_ok a b ea eb
    have q4 := RMinus_ok a b ea eb
    generalize arcsF (spansS a) = A1 at *
    generalize arcsF (spansS (a ++ b)) = A2 at *
    generalize arcsF (meetF (spansS a) (spansS b)) = A3 at *
    generalize arcsF (meetF (spansS a) (restS (spansS b))) = A4 at *
    have s1 := SameArcs_same A1 (by omega)
    have s2 := SameArcs_same A2 (by omega)
    have s3 := SameArcs_same A3 (by omega)
    have s4 := SameArcs_same A4 (by omega)
    refine OKat.of_body (rs := [4]) Tryd.func3 rfl (by decide +kernel) rfl (by simp [Tryd.ntmps3]) ?_
    simp only [Tryd.ntmps3]
    repeat' first
      | apply AW.seq | apply AW.region | apply AW.ret | apply AW.block | apply AW.skip | apply AW.exit | apply AW.scope | apply AW.label | apply AWL.nil
      | ((first | (apply W.step cx_ok; decide) | (apply W.gS; rfl; decide) | apply AW.cond); (simp (disch := omega) only [push_cast, simprocAttr, natNe, List.mem_cons, List.not_mem_nil, TyD.isAgg, Nat.add_assoc, List.map_nil, List.length_nil, beq_self_eq_true, Bool.and_self, Bool.and_true, Bool.true_and, Bool.false_and, Bool.and_false, Bool.not_true, Bool.not_false, Bool.false_eq_true, hf1, hf2, St.back] <;> rfl); all_goals try ((with_reducible intro hI); try first | (cases hI; done) | (simp only [INTS, not_true_eq_false] at hI; try first | (exfalso; omega) | (have hT : True := hI; clear hT hI))))
      | ((apply W.gU; rfl; decide); (simp (disch := omega) only [push_cast, simprocAttr, natNe, List.mem_cons, List.not_mem_nil, TyD.isAgg, Nat.add_assoc, List.map_nil, List.length_nil, beq_self_eq_true, Bool.and_self, Bool.and_true, Bool.true_and, Bool.false_and, Bool.and_false, Bool.not_true, Bool.not_false, Bool.false_eq_true, hf1, hf2, St.back] <;> rfl))
      | ((apply W.callv cx_ok; decide); (iterate 2 (simp (disch := omega) only [push_cast, simprocAttr, natNe, List.mem_cons, List.not_mem_nil, TyD.isAgg, Nat.add_assoc, List.map_nil, List.length_nil, beq_self_eq_true, Bool.and_self, Bool.and_true, Bool.true_and, Bool.false_and, Bool.and_false, Bool.not_true, Bool.not_false, Bool.false_eq_true, hf1, hf2, St.back] <;> rfl)); (with_reducible first | exact hs | exact c1 | exact c2 | exact c3 | exact c4 | exact p1 | exact p2 | exact p3 | exact p4 | exact q1 | exact q2 | exact q3 | exact q4 | exact s1 | exact s2 | exact s3 | exact s4); try first | rfl | (simp (disch := omega) only [push_cast, simprocAttr, natNe, List.mem_cons, List.not_mem_nil, TyD.isAgg, Nat.add_assoc, List.map_nil, List.length_nil, beq_self_eq_true, Bool.and_self, Bool.and_true, Bool.true_and, Bool.false_and, Bool.and_false, Bool.not_true, Bool.not_false, Bool.false_eq_true, hf1, hf2, St.back] <;> rfl))
      | ((first | apply W.ret1 | apply W.end1); (iterate 2 (try (simp (disch := omega) only [push_cast, simprocAttr, natNe, List.mem_cons, List.not_mem_nil, TyD.isAgg, Nat.add_assoc, List.map_nil, List.length_nil, beq_self_eq_true, Bool.and_self, Bool.and_true, Bool.true_and, Bool.false_and, Bool.and_false, Bool.not_true, Bool.not_false, Bool.false_eq_true, hf1, hf2, St.back] <;> rfl))))

    all_goals (show _ = _; rfl)
  · have kF : (bothE a b = 0) = False := eq_false hk
    have kB : (bothE a b == 0) = false := by simpa using hk
    have p2 := Union_bad a b (by omega) (by omega) hk
    have p3 := Meet_bad a b (by omega) (by omega) hk
    have p4 := Minus_bad a b (by omega) (by omega) hk
    obtain ⟨K, hK⟩ : ∃ z, bothE a b = z := ⟨_, rfl⟩
    have hk2 : K ≠ 0 := by rw [← hK]; exact hk
    rw [hK] at kF kB p2 p3 p4 c4
    by_cases hi : checkL a = 0
    · rw [hi] at c3
      obtain ⟨_, va⟩ := checkL_zero hi
      obtain ⟨a1, a2, _⟩ := spans_spec va
      have n1 := arcs_len a1 a2
      have p1 := Normal_good h0 a hi
      have q1 := RNormal_ok a hi
      generalize arcsF (spansS a) = A1 at *
      have s1 := SameArcs_same A1 (by omega)
      clear hK
      refine OKat.of_body (rs := [4]) Tryd.func3 rfl (by decide +kernel) rfl (by simp [Tryd.ntmps3]) ?_
      simp only [Tryd.ntmps3]
      repeat' first
        | apply AW.seq | apply AW.region | apply AW.ret | apply AW.block | apply AW.skip | apply AW.exit | apply AW.scope | apply AW.label | apply AWL.nil
        | ((first | (apply W.step cx_ok; decide) | (apply W.gS; rfl; decide) | apply AW.cond); (simp (disch := omega) only [push_cast, simprocAttr, natNe, List.mem_cons, List.not_mem_nil, TyD.isAgg, Nat.add_assoc, List.map_nil, List.length_nil, beq_self_eq_true, Bool.and_self, Bool.and_true, Bool.true_and, Bool.false_and, Bool.and_false, Bool.not_true, Bool.not_false, Bool.false_eq_true, hf1, hf2, St.back, kF, kB] <;> rfl); all_goals try ((with_reducible intro hI); try first | (cases hI; done) | (simp only [INTS, not_true_eq_false] at hI; try first | (exfalso; omega) | (have hT : True := hI; clear hT hI))))
        | ((apply W.gU; rfl; decide); (simp (disch := omega) only [push_cast, simprocAttr, natNe, List.mem_cons, List.not_mem_nil, TyD.isAgg, Nat.add_assoc, List.map_nil, List.length_nil, beq_self_eq_true, Bool.and_self, Bool.and_true, Bool.true_and, Bool.false_and, Bool.and_false, Bool.not_true, Bool.not_false, Bool.false_eq_true, hf1, hf2, St.back, kF, kB] <;> rfl))
        | ((apply W.callv cx_ok; decide); (iterate 2 (simp (disch := omega) only [push_cast, simprocAttr, natNe, List.mem_cons, List.not_mem_nil, TyD.isAgg, Nat.add_assoc, List.map_nil, List.length_nil, beq_self_eq_true, Bool.and_self, Bool.and_true, Bool.true_and, Bool.false_and, Bool.and_false, Bool.not_true, Bool.not_false, Bool.false_eq_true, hf1, hf2, St.back, kF, kB] <;> rfl)); (with_reducible first | exact hs | exact c1 | exact c2 | exact c3 | exact c4 | exact p1 | exact p2 | exact p3 | exact p4 | exact q1 | exact s1); try first | rfl | (simp (disch := omega) only [push_cast, simprocAttr, natNe, List.mem_cons, List.not_mem_nil, TyD.isAgg, Nat.add_assoc, List.map_nil, List.length_nil, beq_self_eq_true, Bool.and_self, Bool.and_true, Bool.true_and, Bool.false_and, Bool.and_false, Bool.not_true, Bool.not_false, Bool.false_eq_true, hf1, hf2, St.back, kF, kB] <;> rfl))
        | ((first | apply W.ret1 | apply W.end1); (iterate 2 (try (simp (disch := omega) only [push_cast, simprocAttr, natNe, List.mem_cons, List.not_mem_nil, TyD.isAgg, Nat.add_assoc, List.map_nil, List.length_nil, beq_self_eq_true, Bool.and_self, Bool.and_true, Bool.true_and, Bool.false_and, Bool.and_false, Bool.not_true, Bool.not_false, Bool.false_eq_true, hf1, hf2, St.back, kF, kB] <;> rfl))))

      all_goals (show _ = _; rfl)
    · have iF : (checkL a = 0) = False := eq_false hi
      have iB : (checkL a == 0) = false := by simpa using hi
      have p1 := Normal_bad a (by omega) hi
      obtain ⟨I, hI0⟩ : ∃ z, checkL a = z := ⟨_, rfl⟩
      have hi2 : I ≠ 0 := by rw [← hI0]; exact hi
      rw [hI0] at iF iB p1 c3
      clear hK
      refine OKat.of_body (rs := [4]) Tryd.func3 rfl (by decide +kernel) rfl (by simp [Tryd.ntmps3]) ?_
      simp only [Tryd.ntmps3]
      repeat' first
        | apply AW.seq | apply AW.region | apply AW.ret | apply AW.block | apply AW.skip | apply AW.exit | apply AW.scope | apply AW.label | apply AWL.nil
        | ((first | (apply W.step cx_ok; decide) | (apply W.gS; rfl; decide) | apply AW.cond); (simp (disch := omega) only [push_cast, simprocAttr, natNe, List.mem_cons, List.not_mem_nil, TyD.isAgg, Nat.add_assoc, List.map_nil, List.length_nil, beq_self_eq_true, Bool.and_self, Bool.and_true, Bool.true_and, Bool.false_and, Bool.and_false, Bool.not_true, Bool.not_false, Bool.false_eq_true, hf1, hf2, St.back, kF, kB, iF, iB] <;> rfl); all_goals try ((with_reducible intro hI); try first | (cases hI; done) | (simp only [INTS, not_true_eq_false] at hI; try first | (exfalso; omega) | (have hT : True := hI; clear hT hI))))
        | ((apply W.gU; rfl; decide); (simp (disch := omega) only [push_cast, simprocAttr, natNe, List.mem_cons, List.not_mem_nil, TyD.isAgg, Nat.add_assoc, List.map_nil, List.length_nil, beq_self_eq_true, Bool.and_self, Bool.and_true, Bool.true_and, Bool.false_and, Bool.and_false, Bool.not_true, Bool.not_false, Bool.false_eq_true, hf1, hf2, St.back, kF, kB, iF, iB] <;> rfl))
        | ((apply W.callv cx_ok; decide); (iterate 2 (simp (disch := omega) only [push_cast, simprocAttr, natNe, List.mem_cons, List.not_mem_nil, TyD.isAgg, Nat.add_assoc, List.map_nil, List.length_nil, beq_self_eq_true, Bool.and_self, Bool.and_true, Bool.true_and, Bool.false_and, Bool.and_false, Bool.not_true, Bool.not_false, Bool.false_eq_true, hf1, hf2, St.back, kF, kB, iF, iB] <;> rfl)); (with_reducible first | exact hs | exact c1 | exact c2 | exact c3 | exact c4 | exact p1 | exact p2 | exact p3 | exact p4); try first | rfl | (simp (disch := omega) only [push_cast, simprocAttr, natNe, List.mem_cons, List.not_mem_nil, TyD.isAgg, Nat.add_assoc, List.map_nil, List.length_nil, beq_self_eq_true, Bool.and_self, Bool.and_true, Bool.true_and, Bool.false_and, Bool.and_false, Bool.not_true, Bool.not_false, Bool.false_eq_true, hf1, hf2, St.back, kF, kB, iF, iB] <;> rfl))
        | ((first | apply W.ret1 | apply W.end1); (iterate 2 (try (simp (disch := omega) only [push_cast, simprocAttr, natNe, List.mem_cons, List.not_mem_nil, TyD.isAgg, Nat.add_assoc, List.map_nil, List.length_nil, beq_self_eq_true, Bool.and_self, Bool.and_true, Bool.true_and, Bool.false_and, Bool.and_false, Bool.not_true, Bool.not_false, Bool.false_eq_true, hf1, hf2, St.back, kF, kB, iF, iB] <;> rfl))))

      all_goals (show _ = _; rfl)
end Go.Proofs.Ds
