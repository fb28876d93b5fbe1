/-
  Contracts of functions, proved by going through their code. No conditions.
-/
import Derived.Test.YtkdiplkmcilkmaaDoorDau
import Derived.Test.YtkdiplkmcilkmaaDoorDaw
import Derived.Test.YtkdiplkmcilkmaaDoorDtC0
set_option linter.unusedVariables false
set_option linter.unusedSimpArgs false
set_option maxHeartbeats 8000000
set_option maxRecDepth 10000
namespace Go.Proofs.Ds
open Go Go.Pg Go.Proofs
theorem inW {l : List Span} (h1 : canon l) (h2 : inC l) : ∀ t ∈ l, 0 ≤ t.lo ∧ t.lo ≤ t.hi ∧ t.hi ≤ 43199 := fun t ht => ⟨(h2 t ht).1, h1.2 t ht, (h2 t ht).2⟩
theorem spans_len {l : List Arc} (hv : ∀ x ∈ l, validA x = true) : (spansS l).length ≤ 2 * l.length := by
  have h1 : ∀ (p m : List Span), (putAll m p).length ≤ m.length + p.length := by
    intro p
    induction p with
    | nil => intro m; exact Nat.le_refl _
    | cons s p ih =>
      intro m
      have e : putAll m (s :: p) = putAll (putD m s) p := rfl
      have := ih (putD m s)
      have := putD_len m s
      rw [e, List.length_cons]
      omega
  have h2 : (piecesL l).length ≤ 2 * l.length := by
    clear hv
    induction l with
    | nil => exact Nat.le_refl _
    | cons x l ih =>
      have e : piecesL (x :: l) = piecesF x ++ piecesL l := rfl
      rw [e, List.length_append, List.length_cons]
      have : (piecesF x).length ≤ 2 := by unfold piecesF; split <;> simp
      omega
  have := h1 (piecesL l) []
  unfold spansS
  simp only [List.length_nil] at this
  omega
theorem rest_len (l : List Span) : (restS l).length ≤ l.length + 1 := by
  have h : ∀ (l : List Span) (a : Int), (restF a l).length ≤ l.length + 1 := by
    intro l
    induction l with
    | nil => intro a; unfold restF; split <;> simp
    | cons s l ih =>
      intro a
      unfold restF
      have := ih (s.hi + 1)
      split
      · simp; omega
      · simp; omega
  exact h l 0
theorem RGrow_ok (a : List Arc) (n0 : Int) (ha : checkL a = 0) (hn : 0 ≤ n0 ∧ n0 ≤ 43200) : OKv cx 54 [lArc a, ai n0] (lArc (growL a n0)) := by
  obtain ⟨ll, lv⟩ := checkL_zero ha
  have hwv : ∀ x ∈ a.map (fun x => wideF x n0), validA x = true := fun x hx => by
    obtain ⟨y, hy, rfl⟩ := List.mem_map.1 hx
    exact wide_valid (lv y hy) hn.1
  have hwl : (a.map fun x => wideF x n0).length = a.length := List.length_map _
  unfold growL
  obtain ⟨WL, hWL⟩ : ∃ z, a.map (fun x => wideF x n0) = z := ⟨_, rfl⟩
  rw [hWL] at hwv hwl ⊢
  obtain ⟨s1, s2, _⟩ := spans_spec hwv
  have hsl := inC_len s1 s2
  have c3 := Rspans_ok WL hwv (by omega)
  have c4 := Rarcs_ok _ s2 s1.2 (by omega)
  refine OKat.of_body (rs := [4]) Tryd.func54 rfl (by decide +kernel) rfl (by simp [Tryd.ntmps54]) ?_
  simp only [Tryd.ntmps54]
  repeat' first
    | apply AW.seq | apply AW.region | apply AW.ret | apply AW.block | apply AW.skip | apply AW.exit | apply AW.scope | apply AW.label | apply AWL.nil
    | ((first | (apply W.step cx_ok; decide) | apply W.store cx_ok | apply AW.cond); (simp (disch := (first | omega | (simp only [List.length_append, List.length_map, List.length_cons, List.length_nil, List.length_take, List.length_drop]; omega))) only [push_cast, simprocAttr, takeM, dropM, List.take_length, List.length_take, List.length_drop, List.all_append, List.all_cons, List.all_nil, Bool.and_true, Bool.and_self, and_self, and_true, true_and, leT, List.take_of_length_le, pureL, pureA, natNe, List.mem_cons, List.not_mem_nil, TyD.isAgg, Nat.add_assoc, List.map_nil, List.length_nil, Bool.true_and, Bool.false_and, Bool.and_false, Bool.not_true, Bool.not_false, Bool.false_eq_true] <;> rfl); all_goals try ((with_reducible intro hI); try first | (cases hI; done) | (simp only [INTS, not_true_eq_false] at hI; try first | (exfalso; omega) | (have hT : True := hI; clear hT hI))))
    | (apply W.append cx_ok; decide; rfl; rfl; rfl; decide; (iterate 3 (simp (disch := (first | omega | (simp only [List.length_append, List.length_map, List.length_cons, List.length_nil, List.length_take, List.length_drop]; omega))) only [push_cast, simprocAttr, takeM, dropM, List.take_length, List.length_take, List.length_drop, List.all_append, List.all_cons, List.all_nil, Bool.and_true, Bool.and_self, and_self, and_true, true_and, leT, List.take_of_length_le, pureL, pureA, natNe, List.mem_cons, List.not_mem_nil, TyD.isAgg, Nat.add_assoc, List.map_nil, List.length_nil, Bool.true_and, Bool.false_and, Bool.and_false, Bool.not_true, Bool.not_false, Bool.false_eq_true] <;> rfl)); (first | (focus (simp; done)) | (intro c hc; obtain ⟨x, _, rfl⟩ := List.mem_map.1 hc; rfl)); ((first | rfl | simp (disch := omega) only [push_cast])); ((try dsimp only); (try simp only [List.length_map, List.length_append, List.length_cons, List.length_nil, List.length_take, List.length_drop]); omega); ((try dsimp only); (try simp only [List.length_map, List.length_append, List.length_cons, List.length_nil, List.length_take, List.length_drop]); omega))
    | ((first | apply W.ret1 | apply W.end1); (iterate 2 (try (simp (disch := (first | omega | (simp only [List.length_append, List.length_map, List.length_cons, List.length_nil, List.length_take, List.length_drop]; omega))) only [push_cast, simprocAttr, takeM, dropM, List.take_length, List.length_take, List.length_drop, List.all_append, List.all_cons, List.all_nil, Bool.and_true, Bool.and_self, and_self, and_true, true_and, leT, List.take_of_length_le, pureL, pureA, natNe, List.mem_cons, List.not_mem_nil, TyD.isAgg, Nat.add_assoc, List.map_nil, List.length_nil, Bool.true_and, Bool.false_and, Bool.and_false, Bool.not_true, Bool.not_false, Bool.false_eq_true] <;> rfl))))

  refine AW.adopt 5 2 35 ?_ ?_
  · (simp (disch := omega) only [push_cast, simprocAttr, natNe, List.mem_cons, List.not_mem_nil, TyD.isAgg, Nat.add_assoc, List.map_nil, List.length_nil, Bool.and_self, Bool.and_true, Bool.true_and, Bool.false_and, Bool.and_false, Bool.not_true, Bool.not_false, Bool.false_eq_true] <;> rfl)
  refine AW.loop (fun n s => ∃ (k : Nat) (O rest : List Arc), n = rest.length ∧ (a.drop k = rest) ∧ (O ++ rest.map (fun x => wideF x n0) = WL) ∧ (O.length = k) ∧ (k ≤ a.length) ∧ 1 ≤ s.nx ∧ s.tm 0 = lArc a ∧ s.tm 1 = ai n0 ∧ s.tm 5 = .ref 0 0 O.length ∧ s.tm 6 = ai k ∧ Pg.rowAt s.H (0) = some ({ k := 2, es := O.map eArc, ty := 35, lo := O.length })) (a.length) ⟨0, [], a, rfl, rfl, (by rw [← hWL]; rfl), rfl, (Nat.zero_le _), ?_, ?_, ?_, ?_, ?_, ?_⟩ ?_
  iterate 6 (first | (simp (disch := omega) only [push_cast, simprocAttr, natNe, List.mem_cons, List.not_mem_nil, TyD.isAgg, Nat.add_assoc, isEmpty_map, List.isEmpty_cons, Bool.false_eq_true, List.map_append, List.map_cons, List.map_nil, List.length_append, List.length_cons, List.length_nil, Nat.zero_add] <;> first | rfl | omega) | omega)
  rintro n1 s1 ⟨k1, O1, rest1, hn1, hp01, hp11, hp21, hp31, hnl1, hS1⟩
  have hZ1 : (0 : Nat) ≠ s1.nx ∧ s1.nx ≠ (0 : Nat) := by omega
  refine AW.fresh fun hfr1 => ?_
  rcases rest1 with _ | ⟨x, rest1⟩
  rotate_left
  · obtain ⟨hk, hg, hd', hl', hm', hx⟩ := drop_cons hp01 eArc []
    have c2 := wide_ok x n0 (lv x hm') hn
    repeat' first
      | apply AW.seq | apply AW.region | apply AW.ret | apply AW.block | apply AW.skip | apply AW.exit | apply AW.scope | apply AW.label | apply AWL.nil
      | ((first | (apply W.step cx_ok; decide) | apply W.store cx_ok | apply AW.cond); (simp (disch := (first | omega | (simp only [List.length_append, List.length_map, List.length_cons, List.length_nil, List.length_take, List.length_drop, List.length_nil]; omega))) only [push_cast, simprocAttr, takeM, dropM, List.take_length, List.length_take, List.length_drop, List.all_append, List.all_cons, List.all_nil, Bool.and_true, Bool.and_self, and_self, and_true, true_and, leT, List.take_of_length_le, pureL, pureA, hS1, hZ1, hk, hg, hx, hfr1, natNe, List.mem_cons, List.not_mem_nil, TyD.isAgg, Nat.add_assoc, isEmpty_map, List.isEmpty_cons, Bool.false_eq_true, List.map_append, List.map_cons, List.map_nil, List.length_append, List.length_cons, List.length_nil, Nat.zero_add] <;> rfl); all_goals try ((with_reducible intro hI); try first | (cases hI; done) | (simp only [INTS, not_true_eq_false] at hI; try first | (exfalso; omega) | (have hT : True := hI; clear hT hI))))
      | (apply W.append cx_ok; decide; rfl; rfl; rfl; decide; (iterate 3 (simp (disch := (first | omega | (simp only [List.length_append, List.length_map, List.length_cons, List.length_nil, List.length_take, List.length_drop, List.length_nil]; omega))) only [push_cast, simprocAttr, takeM, dropM, List.take_length, List.length_take, List.length_drop, List.all_append, List.all_cons, List.all_nil, Bool.and_true, Bool.and_self, and_self, and_true, true_and, leT, List.take_of_length_le, pureL, pureA, hS1, hZ1, hk, hg, hx, hfr1, natNe, List.mem_cons, List.not_mem_nil, TyD.isAgg, Nat.add_assoc, isEmpty_map, List.isEmpty_cons, Bool.false_eq_true, List.map_append, List.map_cons, List.map_nil, List.length_append, List.length_cons, List.length_nil, Nat.zero_add] <;> rfl)); (first | (focus (simp; done)) | (intro c hc; obtain ⟨x, _, rfl⟩ := List.mem_map.1 hc; rfl)); ((first | rfl | simp (disch := omega) only [push_cast])); ((try dsimp only); (try simp only [List.length_map, List.length_append, List.length_cons, List.length_nil, List.length_take, List.length_drop, List.length_nil]); omega); ((try dsimp only); (try simp only [List.length_map, List.length_append, List.length_cons, List.length_nil, List.length_take, List.length_drop, List.length_nil]); omega))
      | ((apply W.callv cx_ok; decide); (iterate 2 (simp (disch := (first | omega | (simp only [List.length_append, List.length_map, List.length_cons, List.length_nil, List.length_take, List.length_drop, List.length_nil]; omega))) only [push_cast, simprocAttr, takeM, dropM, List.take_length, List.length_take, List.length_drop, List.all_append, List.all_cons, List.all_nil, Bool.and_true, Bool.and_self, and_self, and_true, true_and, leT, List.take_of_length_le, pureL, pureA, hS1, hZ1, hk, hg, hx, hfr1, natNe, List.mem_cons, List.not_mem_nil, TyD.isAgg, Nat.add_assoc, isEmpty_map, List.isEmpty_cons, Bool.false_eq_true, List.map_append, List.map_cons, List.map_nil, List.length_append, List.length_cons, List.length_nil, Nat.zero_add] <;> rfl)); (with_reducible first | exact c2); try first | rfl | (simp (disch := (first | omega | (simp only [List.length_append, List.length_map, List.length_cons, List.length_nil, List.length_take, List.length_drop, List.length_nil]; omega))) only [push_cast, simprocAttr, takeM, dropM, List.take_length, List.length_take, List.length_drop, List.all_append, List.all_cons, List.all_nil, Bool.and_true, Bool.and_self, and_self, and_true, true_and, leT, List.take_of_length_le, pureL, pureA, hS1, hZ1, hk, hg, hx, hfr1, natNe, List.mem_cons, List.not_mem_nil, TyD.isAgg, Nat.add_assoc, isEmpty_map, List.isEmpty_cons, Bool.false_eq_true, List.map_append, List.map_cons, List.map_nil, List.length_append, List.length_cons, List.length_nil, Nat.zero_add] <;> rfl))
      | ((first | apply W.ret1 | apply W.end1); (iterate 2 (try (simp (disch := (first | omega | (simp only [List.length_append, List.length_map, List.length_cons, List.length_nil, List.length_take, List.length_drop, List.length_nil]; omega))) only [push_cast, simprocAttr, takeM, dropM, List.take_length, List.length_take, List.length_drop, List.all_append, List.all_cons, List.all_nil, Bool.and_true, Bool.and_self, and_self, and_true, true_and, leT, List.take_of_length_le, pureL, pureA, hS1, hZ1, hk, hg, hx, hfr1, natNe, List.mem_cons, List.not_mem_nil, TyD.isAgg, Nat.add_assoc, isEmpty_map, List.isEmpty_cons, Bool.false_eq_true, List.map_append, List.map_cons, List.map_nil, List.length_append, List.length_cons, List.length_nil, Nat.zero_add] <;> rfl))))

    all_goals (refine ⟨rest1.length, ?_, k1 + 1, (O1 ++ [wideF x n0]), rest1, rfl, hd', (by rw [List.append_assoc]; exact hp11), (by rw [List.length_append, List.length_singleton]; omega), (by omega), ?_, ?_, ?_, ?_, ?_, ?_⟩; ((simp only [List.length_cons] at *; omega)); all_goals first | (simp (disch := omega) only [push_cast, simprocAttr, hS1, hZ1, hk, hg, hx, natNe, List.mem_cons, List.not_mem_nil, TyD.isAgg, Nat.add_assoc, isEmpty_map, List.isEmpty_cons, Bool.false_eq_true, List.map_append, List.map_cons, List.map_nil, List.length_append, List.length_cons, List.length_nil, Nat.zero_add] <;> first | rfl | omega) | omega)
  have hk := drop_nil hp01
  simp only [List.map_nil, List.append_nil] at hp11
  subst hp11
  repeat' first
    | apply AW.seq | apply AW.region | apply AW.ret | apply AW.block | apply AW.skip | apply AW.exit | apply AW.scope | apply AW.label | apply AWL.nil
    | ((first | (apply W.step cx_ok; decide) | apply W.store cx_ok | apply AW.cond); (simp (disch := (first | omega | (simp only [List.length_append, List.length_map, List.length_cons, List.length_nil, List.length_take, List.length_drop, List.length_nil]; omega))) only [push_cast, simprocAttr, takeM, dropM, List.take_length, List.length_take, List.length_drop, List.all_append, List.all_cons, List.all_nil, Bool.and_true, Bool.and_self, and_self, and_true, true_and, leT, List.take_of_length_le, pureL, pureA, hS1, hZ1, hk, natNe, List.mem_cons, List.not_mem_nil, TyD.isAgg, Nat.add_assoc, isEmpty_map, List.isEmpty_cons, Bool.false_eq_true, List.map_append, List.map_cons, List.map_nil, List.length_append, List.length_cons, List.length_nil, Nat.zero_add] <;> rfl); all_goals try ((with_reducible intro hI); try first | (cases hI; done) | (simp only [INTS, not_true_eq_false] at hI; try first | (exfalso; omega) | (have hT : True := hI; clear hT hI))))
    | (apply W.append cx_ok; decide; rfl; rfl; rfl; decide; (iterate 3 (simp (disch := (first | omega | (simp only [List.length_append, List.length_map, List.length_cons, List.length_nil, List.length_take, List.length_drop, List.length_nil]; omega))) only [push_cast, simprocAttr, takeM, dropM, List.take_length, List.length_take, List.length_drop, List.all_append, List.all_cons, List.all_nil, Bool.and_true, Bool.and_self, and_self, and_true, true_and, leT, List.take_of_length_le, pureL, pureA, hS1, hZ1, hk, natNe, List.mem_cons, List.not_mem_nil, TyD.isAgg, Nat.add_assoc, isEmpty_map, List.isEmpty_cons, Bool.false_eq_true, List.map_append, List.map_cons, List.map_nil, List.length_append, List.length_cons, List.length_nil, Nat.zero_add] <;> rfl)); (first | (focus (simp; done)) | (intro c hc; obtain ⟨x, _, rfl⟩ := List.mem_map.1 hc; rfl)); ((first | rfl | simp (disch := omega) only [push_cast])); ((try dsimp only); (try simp only [List.length_map, List.length_append, List.length_cons, List.length_nil, List.length_take, List.length_drop, List.length_nil]); omega); ((try dsimp only); (try simp only [List.length_map, List.length_append, List.length_cons, List.length_nil, List.length_take, List.length_drop, List.length_nil]); omega))
    | ((apply W.callv cx_ok; decide); (iterate 2 (simp (disch := (first | omega | (simp only [List.length_append, List.length_map, List.length_cons, List.length_nil, List.length_take, List.length_drop, List.length_nil]; omega))) only [push_cast, simprocAttr, takeM, dropM, List.take_length, List.length_take, List.length_drop, List.all_append, List.all_cons, List.all_nil, Bool.and_true, Bool.and_self, and_self, and_true, true_and, leT, List.take_of_length_le, pureL, pureA, hS1, hZ1, hk, natNe, List.mem_cons, List.not_mem_nil, TyD.isAgg, Nat.add_assoc, isEmpty_map, List.isEmpty_cons, Bool.false_eq_true, List.map_append, List.map_cons, List.map_nil, List.length_append, List.length_cons, List.length_nil, Nat.zero_add] <;> rfl)); (with_reducible first | exact c3 | exact c4); try first | rfl | (simp (disch := (first | omega | (simp only [List.length_append, List.length_map, List.length_cons, List.length_nil, List.length_take, List.length_drop, List.length_nil]; omega))) only [push_cast, simprocAttr, takeM, dropM, List.take_length, List.length_take, List.length_drop, List.all_append, List.all_cons, List.all_nil, Bool.and_true, Bool.and_self, and_self, and_true, true_and, leT, List.take_of_length_le, pureL, pureA, hS1, hZ1, hk, natNe, List.mem_cons, List.not_mem_nil, TyD.isAgg, Nat.add_assoc, isEmpty_map, List.isEmpty_cons, Bool.false_eq_true, List.map_append, List.map_cons, List.map_nil, List.length_append, List.length_cons, List.length_nil, Nat.zero_add] <;> rfl))
    | ((first | apply W.ret1 | apply W.end1); (iterate 2 (try (simp (disch := (first | omega | (simp only [List.length_append, List.length_map, List.length_cons, List.length_nil, List.length_take, List.length_drop, List.length_nil]; omega))) only [push_cast, simprocAttr, takeM, dropM, List.take_length, List.length_take, List.length_drop, List.all_append, List.all_cons, List.all_nil, Bool.and_true, Bool.and_self, and_self, and_true, true_and, leT, List.take_of_length_le, pureL, pureA, hS1, hZ1, hk, natNe, List.mem_cons, List.not_mem_nil, TyD.isAgg, Nat.add_assoc, isEmpty_map, List.isEmpty_cons, Bool.false_eq_true, List.map_append, List.map_cons, List.map_nil, List.length_append, List.length_cons, List.length_nil, Nat.zero_add] <;> rfl))))

  all_goals (show _ = _; rfl)
theorem RSize_ok (a : List Arc) (ha : checkL a = 0) : OKv cx 55 [lArc a] (ai (sumW (spansS a))) := by
  obtain ⟨la, va⟩ := checkL_zero ha
  obtain ⟨a1, a2, _⟩ := spans_spec va
  have l1 := inC_len a1 a2
  have c1 := Rspans_ok a va (by omega)
  have hsw := a1.2
  clear a1
  obtain ⟨S, hS0⟩ : ∃ z, spansS a = z := ⟨_, rfl⟩
  rw [hS0] at l1 c1 hsw a2 ⊢
  obtain ⟨RES, hRES⟩ : ∃ z, sumW S = z := ⟨_, rfl⟩
  rw [hRES]
  refine OKat.of_body (rs := [2]) Tryd.func55 rfl (by decide +kernel) rfl (by simp [Tryd.ntmps55]) ?_
  simp only [Tryd.ntmps55]
  repeat' first
    | apply AW.seq | apply AW.region | apply AW.ret | apply AW.block | apply AW.skip | apply AW.exit | apply AW.scope | apply AW.label | apply AWL.nil | apply D.nil
    | refine W.draw cx_mixed (by decide +kernel) ?_
    | ((first | (apply W.step cx_ok; decide) | (apply D.step cx_ok; decide; decide) | apply AW.cond); (simp (disch := omega) only [push_cast, simprocAttr, natNe, List.mem_cons, List.not_mem_nil, TyD.isAgg, Nat.add_assoc, isEmpty_map, List.isEmpty_cons, Bool.false_eq_true, List.map_append, List.map_cons, List.map_nil, List.length_append, List.length_cons, List.length_nil, Nat.zero_add] <;> rfl); all_goals try ((with_reducible intro hI); try first | (cases hI; done) | (simp only [INTS, not_true_eq_false] at hI; try first | (exfalso; omega) | (have hT : True := hI; clear hT hI))))
    | ((first | (apply W.callv cx_ok; decide) | (apply D.callv cx_ok; decide; decide)); (iterate 2 (simp (disch := omega) only [push_cast, simprocAttr, natNe, List.mem_cons, List.not_mem_nil, TyD.isAgg, Nat.add_assoc, isEmpty_map, List.isEmpty_cons, Bool.false_eq_true, List.map_append, List.map_cons, List.map_nil, List.length_append, List.length_cons, List.length_nil, Nat.zero_add] <;> rfl)); (with_reducible first | exact c1); try first | rfl | (simp (disch := omega) only [push_cast, simprocAttr, natNe, List.mem_cons, List.not_mem_nil, TyD.isAgg, Nat.add_assoc, isEmpty_map, List.isEmpty_cons, Bool.false_eq_true, List.map_append, List.map_cons, List.map_nil, List.length_append, List.length_cons, List.length_nil, Nat.zero_add] <;> rfl))
    | ((first | apply W.ret1 | apply W.end1); (iterate 2 (try (simp (disch := omega) only [push_cast, simprocAttr, natNe, List.mem_cons, List.not_mem_nil, TyD.isAgg, Nat.add_assoc, isEmpty_map, List.isEmpty_cons, Bool.false_eq_true, List.map_append, List.map_cons, List.map_nil, List.length_append, List.length_cons, List.length_nil, Nat.zero_add] <;> rfl))))

  refine AW.loop (fun n s => ∃ (k : Nat) (m0 : Int) (rest : List Span), n = rest.length ∧ (S.drop k = rest) ∧ (m0 + sumW rest = RES) ∧ (0 ≤ m0 ∧ m0 ≤ 43200 * (k : Int)) ∧ (k ≤ S.length) ∧ s.tm 3 = lSpan S ∧ s.tm 4 = ai m0 ∧ s.tm 5 = ai k) (S.length) ⟨0, 0, S, rfl, rfl, (by omega), (by omega), (Nat.zero_le _), ?_, ?_, ?_⟩ ?_
  iterate 3 (first | (simp (disch := omega) only [push_cast, simprocAttr, natNe, List.mem_cons, List.not_mem_nil, TyD.isAgg, Nat.add_assoc, isEmpty_map, List.isEmpty_cons, Bool.false_eq_true, List.map_append, List.map_cons, List.map_nil, List.length_append, List.length_cons, List.length_nil, Nat.zero_add] <;> first | rfl | omega) | omega)
  rintro n1 s1 ⟨k1, m01, rest1, hn1, hp01, hp11, hp21, hp31, hS1⟩
  rcases rest1 with _ | ⟨x, rest1⟩
  · have hk := drop_nil hp01
    have hq : m01 = RES := by unfold sumW at hp11; omega
    subst hq
    repeat' first
      | apply AW.seq | apply AW.region | apply AW.ret | apply AW.block | apply AW.skip | apply AW.exit | apply AW.scope | apply AW.label | apply AWL.nil | apply D.nil
      | refine W.draw cx_mixed (by decide +kernel) ?_
      | ((first | (apply W.step cx_ok; decide) | (apply D.step cx_ok; decide; decide) | apply AW.cond); (simp (disch := omega) only [push_cast, simprocAttr, hS1, hk, natNe, List.mem_cons, List.not_mem_nil, TyD.isAgg, Nat.add_assoc, isEmpty_map, List.isEmpty_cons, Bool.false_eq_true, List.map_append, List.map_cons, List.map_nil, List.length_append, List.length_cons, List.length_nil, Nat.zero_add] <;> rfl); all_goals try ((with_reducible intro hI); try first | (cases hI; done) | (simp only [INTS, not_true_eq_false] at hI; try first | (exfalso; omega) | (have hT : True := hI; clear hT hI))))
      | ((first | apply W.ret1 | apply W.end1); (iterate 2 (try (simp (disch := omega) only [push_cast, simprocAttr, hS1, hk, natNe, List.mem_cons, List.not_mem_nil, TyD.isAgg, Nat.add_assoc, isEmpty_map, List.isEmpty_cons, Bool.false_eq_true, List.map_append, List.map_cons, List.map_nil, List.length_append, List.length_cons, List.length_nil, Nat.zero_add] <;> rfl))))

    all_goals (show _ = _; rfl)
  · obtain ⟨hk, hg, hd', hl', hm', hx⟩ := drop_cons hp01 eSpan []
    have hxi := a2 x hm'
    have hxw := hsw x hm'
    unfold sumW at hp11
    repeat' first
      | apply AW.seq | apply AW.region | apply AW.ret | apply AW.block | apply AW.skip | apply AW.exit | apply AW.scope | apply AW.label | apply AWL.nil | apply D.nil
      | refine W.draw cx_mixed (by decide +kernel) ?_
      | ((first | (apply W.step cx_ok; decide) | (apply D.step cx_ok; decide; decide) | apply AW.cond); (simp (disch := omega) only [push_cast, simprocAttr, hS1, hk, hg, hx, natNe, List.mem_cons, List.not_mem_nil, TyD.isAgg, Nat.add_assoc, isEmpty_map, List.isEmpty_cons, Bool.false_eq_true, List.map_append, List.map_cons, List.map_nil, List.length_append, List.length_cons, List.length_nil, Nat.zero_add] <;> rfl); all_goals try ((with_reducible intro hI); try first | (cases hI; done) | (simp only [INTS, not_true_eq_false] at hI; try first | (exfalso; omega) | (have hT : True := hI; clear hT hI))))
      | ((first | apply W.ret1 | apply W.end1); (iterate 2 (try (simp (disch := omega) only [push_cast, simprocAttr, hS1, hk, hg, hx, natNe, List.mem_cons, List.not_mem_nil, TyD.isAgg, Nat.add_assoc, isEmpty_map, List.isEmpty_cons, Bool.false_eq_true, List.map_append, List.map_cons, List.map_nil, List.length_append, List.length_cons, List.length_nil, Nat.zero_add] <;> rfl))))

    all_goals (refine ⟨rest1.length, ?_, k1 + 1, m01 + x.hi - x.lo + 1, rest1, rfl, hd', (by omega), (by omega), (by omega), ?_, ?_, ?_⟩; ((simp only [List.length_cons] at *; omega)); all_goals first | (simp (disch := omega) only [push_cast, simprocAttr, hS1, hk, hg, hx, natNe, List.mem_cons, List.not_mem_nil, TyD.isAgg, Nat.add_assoc, isEmpty_map, List.isEmpty_cons, Bool.false_eq_true, List.map_append, List.map_cons, List.map_nil, List.length_append, List.length_cons, List.length_nil, Nat.zero_add] <;> first | rfl | omega) | omega)
def coversF (a b : List Arc) : Bool := decide (meetF (spansS b) (restS (spansS a)) = [])
theorem meet_comm {a b : List Span} (ha : canon a) (hb : canon b) : meetF a b = meetF b a := by
  obtain ⟨m1, m2⟩ := meet_spec ha hb
  obtain ⟨n1, n2⟩ := meet_spec hb ha
  exact canon_ext m1 n1 fun x => by rw [m2, n2]; exact And.comm
theorem RCovers_ok (a b : List Arc) (ha : checkL a = 0) (hb : checkL b = 0) : OKv cx 56 [lArc a, lArc b] (ab (coversF a b)) := by
  obtain ⟨la, va⟩ := checkL_zero ha
  obtain ⟨a1, a2, _⟩ := spans_spec va
  have l1 := inC_len a1 a2
  have c1 := Rspans_ok a va (by omega)
  obtain ⟨lb, vb⟩ := checkL_zero hb
  obtain ⟨b1, b2, _⟩ := spans_spec vb
  have l2 := inC_len b1 b2
  have c2 := Rspans_ok b vb (by omega)
  obtain ⟨r1, r2, _⟩ := restS_spec a1 a2
  have l5 := inC_len r1 r2
  have c5 := Rrest_ok _ a2 a1.2 (by omega)
  have e1 := common_eq r1 b1
  rw [meet_comm r1 b1] at e1
  have m3 := Rcommon_ok _ _ (inW r1 r2) (inW b1 b2) (by have := spans_len va; have := rest_len (spansS a); omega) (by have := spans_len vb; omega)
  rw [e1] at m3
  unfold coversF
  obtain ⟨R, hR⟩ : ∃ z, meetF (spansS b) (restS (spansS a)) = z := ⟨_, rfl⟩
  rw [hR] at m3 ⊢
  have hz : (decide ((R.length : Int) = 0)) = decide (R = []) := by
    cases R with
    | nil => rfl
    | cons x R => rw [decide_eq_false (p := ((x :: R).length : Int) = 0) (by rw [List.length_cons]; omega), decide_eq_false (p := x :: R = []) (by simp)]
  have hz2 : ((R.length : Int) == 0) = decide (R = []) := by rw [← hz]; rfl
  refine OKat.of_body (rs := [4]) Tryd.func56 rfl (by decide +kernel) rfl (by simp [Tryd.ntmps56]) ?_
  simp only [Tryd.ntmps56]
  repeat' first
    | apply AW.seq | apply AW.region | apply AW.ret | apply AW.block | apply AW.skip | apply AW.exit | apply AW.scope | apply AW.label | apply AWL.nil
    | ((first | (apply W.step cx_ok; decide) | apply AW.cond); (simp (disch := omega) only [push_cast, simprocAttr, natNe, List.mem_cons, List.not_mem_nil, TyD.isAgg, Nat.add_assoc, List.map_nil, List.length_nil, Bool.and_self, Bool.and_true, Bool.true_and, Bool.false_and, Bool.and_false, Bool.not_true, Bool.not_false, Bool.false_eq_true, hz, hz2] <;> rfl); all_goals try ((with_reducible intro hI); try first | (cases hI; done) | (simp only [INTS, not_true_eq_false] at hI; try first | (exfalso; omega) | (have hT : True := hI; clear hT hI))))
    | ((apply W.callv cx_ok; decide); (iterate 2 (simp (disch := omega) only [push_cast, simprocAttr, natNe, List.mem_cons, List.not_mem_nil, TyD.isAgg, Nat.add_assoc, List.map_nil, List.length_nil, Bool.and_self, Bool.and_true, Bool.true_and, Bool.false_and, Bool.and_false, Bool.not_true, Bool.not_false, Bool.false_eq_true, hz, hz2] <;> rfl)); (with_reducible first | exact c1 | exact c2 | exact c5 | exact m3); try first | rfl | (simp (disch := omega) only [push_cast, simprocAttr, natNe, List.mem_cons, List.not_mem_nil, TyD.isAgg, Nat.add_assoc, List.map_nil, List.length_nil, Bool.and_self, Bool.and_true, Bool.true_and, Bool.false_and, Bool.and_false, Bool.not_true, Bool.not_false, Bool.false_eq_true, hz, hz2] <;> rfl))
    | ((first | apply W.ret1 | apply W.end1); (iterate 2 (try (simp (disch := omega) only [push_cast, simprocAttr, natNe, List.mem_cons, List.not_mem_nil, TyD.isAgg, Nat.add_assoc, List.map_nil, List.length_nil, Bool.and_self, Bool.and_true, Bool.true_and, Bool.false_and, Bool.and_false, Bool.not_true, Bool.not_false, Bool.false_eq_true, hz, hz2] <;> rfl))))

  all_goals (show _ = _; first | rfl | rw [hz] | rw [hz2])
theorem Covers_good (h0 : SortKC0 Tryd.prog 130) (a b : List Arc) (ha : checkL a = 0) (hb : checkL b = 0) : OKv cx 52 [lArc a, lArc b] (.tup [ab (coversF a b), ai 0]) := by
  have c1 := Minus_good h0 b a hb ha
  have la := (checkL_zero ha).1
  have c2 := acceptable_ok a (by omega)
  rw [ha] at c2
  unfold coversF
  have hz : decide (((arcsF (meetF (spansS b) (restS (spansS a)))).length : Int) = 0) = decide (meetF (spansS b) (restS (spansS a)) = []) := by
    rw [Bool.eq_iff_iff, decide_eq_true_iff, decide_eq_true_iff, ← arcsF_nil]
    generalize arcsF (meetF (spansS b) (restS (spansS a))) = R
    cases R with
    | nil => exact ⟨fun _ => rfl, fun _ => rfl⟩
    | cons x R => exact ⟨fun h => by rw [List.length_cons] at h; omega, fun h => by cases h⟩
  obtain ⟨R, hR⟩ : ∃ z, arcsF (meetF (spansS b) (restS (spansS a))) = z := ⟨_, rfl⟩
  rw [hR] at hz c1
  have hz2 : ((R.length : Int) == 0) = decide (meetF (spansS b) (restS (spansS a)) = []) := by rw [← hz]; rfl
  refine OKat.of_body (rs := [4, 5]) Tryd.func52 rfl (by decide +kernel) rfl (by simp [Tryd.ntmps52]) ?_
  simp only [Tryd.ntmps52]
  repeat' first
    | apply AW.seq | apply AW.region | apply AW.ret | apply AW.block | apply AW.skip | apply AW.exit | apply AW.scope | apply AW.label | apply AWL.nil
    | ((first | (apply W.step cx_ok; decide) | apply AW.cond); (simp (disch := omega) only [push_cast, simprocAttr, natNe, List.mem_cons, List.not_mem_nil, TyD.isAgg, Nat.add_assoc, List.map_nil, List.length_nil, Bool.and_self, Bool.and_true, Bool.true_and, Bool.false_and, Bool.and_false, Bool.not_true, Bool.not_false, Bool.false_eq_true, hz, hz2] <;> rfl); all_goals try ((with_reducible intro hI); try first | (cases hI; done) | (simp only [INTS, not_true_eq_false] at hI; try first | (exfalso; omega) | (have hT : True := hI; clear hT hI))))
    | ((apply W.callv cx_ok; decide); (iterate 2 (simp (disch := omega) only [push_cast, simprocAttr, natNe, List.mem_cons, List.not_mem_nil, TyD.isAgg, Nat.add_assoc, List.map_nil, List.length_nil, Bool.and_self, Bool.and_true, Bool.true_and, Bool.false_and, Bool.and_false, Bool.not_true, Bool.not_false, Bool.false_eq_true, hz, hz2] <;> rfl)); (with_reducible first | exact c1 | exact c2); try first | rfl | (simp (disch := omega) only [push_cast, simprocAttr, natNe, List.mem_cons, List.not_mem_nil, TyD.isAgg, Nat.add_assoc, List.map_nil, List.length_nil, Bool.and_self, Bool.and_true, Bool.true_and, Bool.false_and, Bool.and_false, Bool.not_true, Bool.not_false, Bool.false_eq_true, hz, hz2] <;> rfl))
    | ((first | apply W.ret2 | apply W.end2); (iterate 2 (try (simp (disch := omega) only [push_cast, simprocAttr, natNe, List.mem_cons, List.not_mem_nil, TyD.isAgg, Nat.add_assoc, List.map_nil, List.length_nil, Bool.and_self, Bool.and_true, Bool.true_and, Bool.false_and, Bool.and_false, Bool.not_true, Bool.not_false, Bool.false_eq_true, hz, hz2] <;> rfl))))

  all_goals (show _ = _; first | rfl | rw [hz] | rw [hz2])
theorem Covers_bad (a b : List Arc) (hla : a.length ≤ 1099511627776) (hlb : b.length ≤ 1099511627776) (h : bothE a b ≠ 0) : OKv cx 52 [lArc a, lArc b] (.tup [ab false, ai (bothE a b)]) := by
  have hb2 : bothE b a ≠ 0 := by unfold bothE at h ⊢; split at h <;> split <;> simp_all
  have c1 := Minus_bad b a hlb hla hb2
  have c2 := acceptable_ok a hla
  unfold bothE at h ⊢ c1
  by_cases g : checkL a = 0
  · rw [if_neg (by simp [g])] at h ⊢
    rw [if_pos h] at c1
    rw [g] at c2
    have hF : (checkL b = 0) = False := eq_false h
    refine OKat.of_body (rs := [4, 5]) Tryd.func52 rfl (by decide +kernel) rfl (by simp [Tryd.ntmps52]) ?_
    simp only [Tryd.ntmps52]
    repeat' first
      | apply AW.seq | apply AW.region | apply AW.ret | apply AW.block | apply AW.skip | apply AW.exit | apply AW.scope | apply AW.label | apply AWL.nil
      | ((first | (apply W.step cx_ok; decide) | apply AW.cond); (simp (disch := omega) only [push_cast, simprocAttr, natNe, List.mem_cons, List.not_mem_nil, TyD.isAgg, Nat.add_assoc, List.map_nil, List.length_nil, Bool.and_self, Bool.and_true, Bool.true_and, Bool.false_and, Bool.and_false, Bool.not_true, Bool.not_false, Bool.false_eq_true, hF] <;> rfl); all_goals try ((with_reducible intro hI); try first | (cases hI; done) | (simp only [INTS, not_true_eq_false] at hI; try first | (exfalso; omega) | (have hT : True := hI; clear hT hI))))
      | ((apply W.callv cx_ok; decide); (iterate 2 (simp (disch := omega) only [push_cast, simprocAttr, natNe, List.mem_cons, List.not_mem_nil, TyD.isAgg, Nat.add_assoc, List.map_nil, List.length_nil, Bool.and_self, Bool.and_true, Bool.true_and, Bool.false_and, Bool.and_false, Bool.not_true, Bool.not_false, Bool.false_eq_true, hF] <;> rfl)); (with_reducible first | exact c1 | exact c2); try first | rfl | (simp (disch := omega) only [push_cast, simprocAttr, natNe, List.mem_cons, List.not_mem_nil, TyD.isAgg, Nat.add_assoc, List.map_nil, List.length_nil, Bool.and_self, Bool.and_true, Bool.true_and, Bool.false_and, Bool.and_false, Bool.not_true, Bool.not_false, Bool.false_eq_true, hF] <;> rfl))
      | ((first | apply W.ret2 | apply W.end2); (iterate 2 (try (simp (disch := omega) only [push_cast, simprocAttr, natNe, List.mem_cons, List.not_mem_nil, TyD.isAgg, Nat.add_assoc, List.map_nil, List.length_nil, Bool.and_self, Bool.and_true, Bool.true_and, Bool.false_and, Bool.and_false, Bool.not_true, Bool.not_false, Bool.false_eq_true, hF] <;> rfl))))

    all_goals (show _ = _; rfl)
  · rw [if_pos g]
    have hF : (checkL a = 0) = False := eq_false g
    obtain ⟨E, hE⟩ : ∃ z, (if checkL b ≠ 0 then checkL b else checkL a) = z := ⟨_, rfl⟩
    rw [hE] at c1
    refine OKat.of_body (rs := [4, 5]) Tryd.func52 rfl (by decide +kernel) rfl (by simp [Tryd.ntmps52]) ?_
    simp only [Tryd.ntmps52]
    repeat' first
      | apply AW.seq | apply AW.region | apply AW.ret | apply AW.block | apply AW.skip | apply AW.exit | apply AW.scope | apply AW.label | apply AWL.nil
      | ((first | (apply W.step cx_ok; decide) | apply AW.cond); (simp (disch := omega) only [push_cast, simprocAttr, natNe, List.mem_cons, List.not_mem_nil, TyD.isAgg, Nat.add_assoc, List.map_nil, List.length_nil, Bool.and_self, Bool.and_true, Bool.true_and, Bool.false_and, Bool.and_false, Bool.not_true, Bool.not_false, Bool.false_eq_true, hF] <;> rfl); all_goals try ((with_reducible intro hI); try first | (cases hI; done) | (simp only [INTS, not_true_eq_false] at hI; try first | (exfalso; omega) | (have hT : True := hI; clear hT hI))))
      | ((apply W.callv cx_ok; decide); (iterate 2 (simp (disch := omega) only [push_cast, simprocAttr, natNe, List.mem_cons, List.not_mem_nil, TyD.isAgg, Nat.add_assoc, List.map_nil, List.length_nil, Bool.and_self, Bool.and_true, Bool.true_and, Bool.false_and, Bool.and_false, Bool.not_true, Bool.not_false, Bool.false_eq_true, hF] <;> rfl)); (with_reducible first | exact c1 | exact c2); try first | rfl | (simp (disch := omega) only [push_cast, simprocAttr, natNe, List.mem_cons, List.not_mem_nil, TyD.isAgg, Nat.add_assoc, List.map_nil, List.length_nil, Bool.and_self, Bool.and_true, Bool.true_and, Bool.false_and, Bool.and_false, Bool.not_true, Bool.not_false, Bool.false_eq_true, hF] <;> rfl))
      | ((first | apply W.ret2 | apply W.end2); (iterate 2 (try (simp (disch := omega) only [push_cast, simprocAttr, natNe, List.mem_cons, List.not_mem_nil, TyD.isAgg, Nat.add_assoc, List.map_nil, List.length_nil, Bool.and_self, Bool.and_true, Bool.true_and, Bool.false_and, Bool.and_false, Bool.not_true, Bool.not_false, Bool.false_eq_true, hF] <;> rfl))))

    all_goals (show _ = _; rfl)
end Go.Proofs.Ds
