/-
  Contracts of functions, proved by going through their code. No conditions.
-/
import Derived.Test.YtkdiplkmcilkmaaDoorDax
import Derived.Test.YtkdiplkmcilkmaaDoorDtJ
import Derived.Test.YtkdiplkmcilkmaaDoorDtK
set_option linter.unusedVariables false
set_option linter.unusedSimpArgs false
set_option maxHeartbeats 8000000
set_option maxRecDepth 10000
namespace Go.Proofs.Ds
open Go Go.Pg Go.Proofs
theorem bunchN_all (l : List Key) : ∀ (r k : Nat), bunchN l k r = true → ∀ j, k ≤ j → j < k + r → okK l j = true
  | 0, k, _, j, h1, h2 => by omega
  | r + 1, k, h, j, h1, h2 => by
    rw [bunchN, Bool.and_eq_true] at h
    by_cases e : j = k
    · rw [e]; exact h.1
    · exact bunchN_all l r (k + 1) h.2 j (by omega) (by omega)
theorem bunch_at {l : List Key} (h : bunchF l = true) {j : Nat} (hj : j < l.length) : okK l j = true := by
  unfold bunchF at h
  rw [Bool.and_eq_true] at h
  exact bunchN_all l _ 0 h.2 j (by omega) (by omega)
theorem bunch_key {l : List Key} (h : bunchF l = true) : ∀ k ∈ l, keyV k = true := fun k hk => by
  obtain ⟨j, hj, rfl⟩ := List.mem_iff_getElem.1 hk
  have := bunch_at h hj
  unfold okK at this
  rw [Bool.and_eq_true, List.getD_eq_getElem?_getD, List.getElem?_eq_getElem hj] at this
  exact this.1
def makersF (l : List Key) (m : Mark) (i : Ink) : List Int := (l.filter fun k => madeF k m i).map (·.id)
theorem makers_cons (k : Key) (l : List Key) (m : Mark) (i : Ink) : makersF (k :: l) m i = if madeF k m i = true then k.id :: makersF l m i else makersF l m i := by
  unfold makersF
  rw [List.filter_cons]
  split <;> rfl
theorem Makers_bad (l : List Key) (m : Mark) (i : Ink) (h : ¬ (bunchF l = true ∧ markV m = true ∧ inkV i = true)) : OKv cx 70 [lKey l, .agg (eMark m), .agg (eInk i)] (.tup [.lst [], ai 1]) := by
  have c1 := bunch_ok l
  have c2 := CheckMark_ok m
  have c3 := CheckInk_ok i
  have hf3 : ∀ x, flatA (.v x) = true := fun _ => rfl
  have hf5 : ∀ x y, flatA (.tup [.v x, .v y]) = true := fun _ _ => rfl
  cases h1 : bunchF l with
  | false =>
    rw [h1] at c1
    refine OKat.of_body (rs := [6, 7]) Tryd.func70 rfl (by decide +kernel) rfl (by simp [Tryd.ntmps70]) ?_
    simp only [Tryd.ntmps70]
    repeat' first
      | apply AW.seq | apply AW.region | apply AW.ret | apply AW.block | apply AW.skip | apply AW.exit | apply AW.scope | apply AW.label | apply AWL.nil
      | ((first | (apply W.step cx_ok; decide) | apply W.store cx_ok | (apply W.gS; rfl; decide) | apply AW.cond); (simp (disch := omega) only [push_cast, simprocAttr, natNe, List.mem_cons, List.not_mem_nil, TyD.isAgg, Nat.add_assoc, List.map_nil, List.length_nil, Bool.and_self, Bool.and_true, Bool.true_and, Bool.false_and, Bool.and_false, Bool.not_true, Bool.not_false, Bool.false_eq_true, hf3, hf5, St.back, rowAt_aftJ, idsL, idsA, List.cons_append, List.nil_append, List.append_nil] <;> rfl); all_goals try ((with_reducible intro hI); try first | (cases hI; done) | (simp only [INTS, not_true_eq_false] at hI; try first | (exfalso; omega) | (have hT : True := hI; clear hT hI))))
      | ((apply W.callv cx_ok; decide); (iterate 2 (simp (disch := omega) only [push_cast, simprocAttr, natNe, List.mem_cons, List.not_mem_nil, TyD.isAgg, Nat.add_assoc, List.map_nil, List.length_nil, Bool.and_self, Bool.and_true, Bool.true_and, Bool.false_and, Bool.and_false, Bool.not_true, Bool.not_false, Bool.false_eq_true, hf3, hf5, St.back, rowAt_aftJ, idsL, idsA, List.cons_append, List.nil_append, List.append_nil] <;> rfl)); (with_reducible first | exact c1 | exact c2 | exact c3); try first | rfl | (simp (disch := omega) only [push_cast, simprocAttr, natNe, List.mem_cons, List.not_mem_nil, TyD.isAgg, Nat.add_assoc, List.map_nil, List.length_nil, Bool.and_self, Bool.and_true, Bool.true_and, Bool.false_and, Bool.and_false, Bool.not_true, Bool.not_false, Bool.false_eq_true, hf3, hf5, St.back, rowAt_aftJ, idsL, idsA, List.cons_append, List.nil_append, List.append_nil] <;> rfl))
      | ((first | apply W.ret2 | apply W.end2); (iterate 2 (try (simp (disch := omega) only [push_cast, simprocAttr, natNe, List.mem_cons, List.not_mem_nil, TyD.isAgg, Nat.add_assoc, List.map_nil, List.length_nil, Bool.and_self, Bool.and_true, Bool.true_and, Bool.false_and, Bool.and_false, Bool.not_true, Bool.not_false, Bool.false_eq_true, hf3, hf5, St.back, rowAt_aftJ, idsL, idsA, List.cons_append, List.nil_append, List.append_nil] <;> rfl))))

    all_goals (show _ = _; rfl)
  | true =>
  rw [h1] at c1
  cases h2 : markV m with
  | false =>
    rw [h2] at c2
    rw [if_neg Bool.false_ne_true] at c2
    refine OKat.of_body (rs := [6, 7]) Tryd.func70 rfl (by decide +kernel) rfl (by simp [Tryd.ntmps70]) ?_
    simp only [Tryd.ntmps70]
    repeat' first
      | apply AW.seq | apply AW.region | apply AW.ret | apply AW.block | apply AW.skip | apply AW.exit | apply AW.scope | apply AW.label | apply AWL.nil
      | ((first | (apply W.step cx_ok; decide) | apply W.store cx_ok | (apply W.gS; rfl; decide) | apply AW.cond); (simp (disch := omega) only [push_cast, simprocAttr, natNe, List.mem_cons, List.not_mem_nil, TyD.isAgg, Nat.add_assoc, List.map_nil, List.length_nil, Bool.and_self, Bool.and_true, Bool.true_and, Bool.false_and, Bool.and_false, Bool.not_true, Bool.not_false, Bool.false_eq_true, hf3, hf5, St.back, rowAt_aftJ, idsL, idsA, List.cons_append, List.nil_append, List.append_nil] <;> rfl); all_goals try ((with_reducible intro hI); try first | (cases hI; done) | (simp only [INTS, not_true_eq_false] at hI; try first | (exfalso; omega) | (have hT : True := hI; clear hT hI))))
      | ((apply W.callv cx_ok; decide); (iterate 2 (simp (disch := omega) only [push_cast, simprocAttr, natNe, List.mem_cons, List.not_mem_nil, TyD.isAgg, Nat.add_assoc, List.map_nil, List.length_nil, Bool.and_self, Bool.and_true, Bool.true_and, Bool.false_and, Bool.and_false, Bool.not_true, Bool.not_false, Bool.false_eq_true, hf3, hf5, St.back, rowAt_aftJ, idsL, idsA, List.cons_append, List.nil_append, List.append_nil] <;> rfl)); (with_reducible first | exact c1 | exact c2 | exact c3); try first | rfl | (simp (disch := omega) only [push_cast, simprocAttr, natNe, List.mem_cons, List.not_mem_nil, TyD.isAgg, Nat.add_assoc, List.map_nil, List.length_nil, Bool.and_self, Bool.and_true, Bool.true_and, Bool.false_and, Bool.and_false, Bool.not_true, Bool.not_false, Bool.false_eq_true, hf3, hf5, St.back, rowAt_aftJ, idsL, idsA, List.cons_append, List.nil_append, List.append_nil] <;> rfl))
      | ((first | apply W.ret2 | apply W.end2); (iterate 2 (try (simp (disch := omega) only [push_cast, simprocAttr, natNe, List.mem_cons, List.not_mem_nil, TyD.isAgg, Nat.add_assoc, List.map_nil, List.length_nil, Bool.and_self, Bool.and_true, Bool.true_and, Bool.false_and, Bool.and_false, Bool.not_true, Bool.not_false, Bool.false_eq_true, hf3, hf5, St.back, rowAt_aftJ, idsL, idsA, List.cons_append, List.nil_append, List.append_nil] <;> rfl))))

    all_goals (show _ = _; rfl)
  | true =>
  rw [h2] at c2
  rw [if_pos rfl] at c2
  cases h3 : inkV i with
  | false =>
    rw [h3] at c3
    rw [if_neg Bool.false_ne_true] at c3
    refine OKat.of_body (rs := [6, 7]) Tryd.func70 rfl (by decide +kernel) rfl (by simp [Tryd.ntmps70]) ?_
    simp only [Tryd.ntmps70]
    repeat' first
      | apply AW.seq | apply AW.region | apply AW.ret | apply AW.block | apply AW.skip | apply AW.exit | apply AW.scope | apply AW.label | apply AWL.nil
      | ((first | (apply W.step cx_ok; decide) | apply W.store cx_ok | (apply W.gS; rfl; decide) | apply AW.cond); (simp (disch := omega) only [push_cast, simprocAttr, natNe, List.mem_cons, List.not_mem_nil, TyD.isAgg, Nat.add_assoc, List.map_nil, List.length_nil, Bool.and_self, Bool.and_true, Bool.true_and, Bool.false_and, Bool.and_false, Bool.not_true, Bool.not_false, Bool.false_eq_true, hf3, hf5, St.back, rowAt_aftJ, idsL, idsA, List.cons_append, List.nil_append, List.append_nil] <;> rfl); all_goals try ((with_reducible intro hI); try first | (cases hI; done) | (simp only [INTS, not_true_eq_false] at hI; try first | (exfalso; omega) | (have hT : True := hI; clear hT hI))))
      | ((apply W.callv cx_ok; decide); (iterate 2 (simp (disch := omega) only [push_cast, simprocAttr, natNe, List.mem_cons, List.not_mem_nil, TyD.isAgg, Nat.add_assoc, List.map_nil, List.length_nil, Bool.and_self, Bool.and_true, Bool.true_and, Bool.false_and, Bool.and_false, Bool.not_true, Bool.not_false, Bool.false_eq_true, hf3, hf5, St.back, rowAt_aftJ, idsL, idsA, List.cons_append, List.nil_append, List.append_nil] <;> rfl)); (with_reducible first | exact c1 | exact c2 | exact c3); try first | rfl | (simp (disch := omega) only [push_cast, simprocAttr, natNe, List.mem_cons, List.not_mem_nil, TyD.isAgg, Nat.add_assoc, List.map_nil, List.length_nil, Bool.and_self, Bool.and_true, Bool.true_and, Bool.false_and, Bool.and_false, Bool.not_true, Bool.not_false, Bool.false_eq_true, hf3, hf5, St.back, rowAt_aftJ, idsL, idsA, List.cons_append, List.nil_append, List.append_nil] <;> rfl))
      | ((first | apply W.ret2 | apply W.end2); (iterate 2 (try (simp (disch := omega) only [push_cast, simprocAttr, natNe, List.mem_cons, List.not_mem_nil, TyD.isAgg, Nat.add_assoc, List.map_nil, List.length_nil, Bool.and_self, Bool.and_true, Bool.true_and, Bool.false_and, Bool.and_false, Bool.not_true, Bool.not_false, Bool.false_eq_true, hf3, hf5, St.back, rowAt_aftJ, idsL, idsA, List.cons_append, List.nil_append, List.append_nil] <;> rfl))))

    all_goals (show _ = _; rfl)
  | true =>
  rw [h3] at c3
  rw [if_pos rfl] at c3
  exact absurd ⟨h1, h2, h3⟩ h
theorem Makers_good (l : List Key) (m : Mark) (i : Ink) (h : (bunchF l = true ∧ markV m = true ∧ inkV i = true)) : OKv cx 70 [lKey l, .agg (eMark m), .agg (eInk i)] (.tup [lInt (makersF l m i), ai 0]) := by
  obtain ⟨h1, h2, h3⟩ := h
  have hl := bunch_len h1
  have hkv := bunch_key h1
  have c1 := bunch_ok l
  have c2 := CheckMark_ok m
  have c3 := CheckInk_ok i
  rw [h1] at c1
  rw [h2, if_pos rfl] at c2
  rw [h3, if_pos rfl] at c3
  obtain ⟨_, _, ms, mb, _⟩ := markV_iff.1 h2
  obtain ⟨RES, hRES⟩ : ∃ z, makersF l m i = z := ⟨_, rfl⟩
  rw [hRES]
  have hf3 : ∀ x, flatA (.v x) = true := fun _ => rfl
  have hf5 : ∀ x y, flatA (.tup [.v x, .v y]) = true := fun _ _ => rfl
  refine OKat.of_body (rs := [6, 7]) Tryd.func70 rfl (by decide +kernel) rfl (by simp [Tryd.ntmps70]) ?_
  simp only [Tryd.ntmps70]
  repeat' first
    | apply AW.seq | apply AW.region | apply AW.ret | apply AW.block | apply AW.skip | apply AW.exit | apply AW.scope | apply AW.label | apply AWL.nil
    | ((first | (apply W.step cx_ok; decide) | apply W.store cx_ok | (apply W.gS; rfl; decide) | apply AW.cond); (simp (disch := (first | omega | (simp only [List.length_append, List.length_map, List.length_cons, List.length_nil, List.length_take, List.length_drop]; omega))) only [push_cast, simprocAttr, takeM, dropM, List.take_length, List.length_take, List.length_drop, List.all_append, List.all_cons, List.all_nil, Bool.and_true, Bool.and_self, and_self, and_true, true_and, leT, List.take_of_length_le, pureL, pureA, natNe, List.mem_cons, List.not_mem_nil, TyD.isAgg, Nat.add_assoc, List.map_nil, List.length_nil, Bool.true_and, Bool.false_and, Bool.and_false, Bool.not_true, Bool.not_false, Bool.false_eq_true, hf3, hf5, St.back, rowAt_aftJ, idsL, idsA, List.cons_append, List.nil_append, List.append_nil] <;> rfl); all_goals try ((with_reducible intro hI); try first | (cases hI; done) | (simp only [INTS, not_true_eq_false] at hI; try first | (exfalso; omega) | (have hT : True := hI; clear hT hI))))
    | (apply W.append cx_ok; decide; rfl; rfl; rfl; decide; (iterate 3 (simp (disch := (first | omega | (simp only [List.length_append, List.length_map, List.length_cons, List.length_nil, List.length_take, List.length_drop]; omega))) only [push_cast, simprocAttr, takeM, dropM, List.take_length, List.length_take, List.length_drop, List.all_append, List.all_cons, List.all_nil, Bool.and_true, Bool.and_self, and_self, and_true, true_and, leT, List.take_of_length_le, pureL, pureA, natNe, List.mem_cons, List.not_mem_nil, TyD.isAgg, Nat.add_assoc, List.map_nil, List.length_nil, Bool.true_and, Bool.false_and, Bool.and_false, Bool.not_true, Bool.not_false, Bool.false_eq_true, hf3, hf5, St.back, rowAt_aftJ, idsL, idsA, List.cons_append, List.nil_append, List.append_nil] <;> rfl)); (first | (focus (simp; done)) | (intro c hc; obtain ⟨x, _, rfl⟩ := List.mem_map.1 hc; rfl)); ((first | rfl | simp (disch := omega) only [push_cast])); ((try dsimp only); (try simp only [List.length_map, List.length_append, List.length_cons, List.length_nil, List.length_take, List.length_drop]); omega); ((try dsimp only); (try simp only [List.length_map, List.length_append, List.length_cons, List.length_nil, List.length_take, List.length_drop]); omega))
    | ((apply W.callv cx_ok; decide); (iterate 2 (simp (disch := (first | omega | (simp only [List.length_append, List.length_map, List.length_cons, List.length_nil, List.length_take, List.length_drop]; omega))) only [push_cast, simprocAttr, takeM, dropM, List.take_length, List.length_take, List.length_drop, List.all_append, List.all_cons, List.all_nil, Bool.and_true, Bool.and_self, and_self, and_true, true_and, leT, List.take_of_length_le, pureL, pureA, natNe, List.mem_cons, List.not_mem_nil, TyD.isAgg, Nat.add_assoc, List.map_nil, List.length_nil, Bool.true_and, Bool.false_and, Bool.and_false, Bool.not_true, Bool.not_false, Bool.false_eq_true, hf3, hf5, St.back, rowAt_aftJ, idsL, idsA, List.cons_append, List.nil_append, List.append_nil] <;> rfl)); (with_reducible first | exact c1 | exact c2 | exact c3); try first | rfl | (simp (disch := (first | omega | (simp only [List.length_append, List.length_map, List.length_cons, List.length_nil, List.length_take, List.length_drop]; omega))) only [push_cast, simprocAttr, takeM, dropM, List.take_length, List.length_take, List.length_drop, List.all_append, List.all_cons, List.all_nil, Bool.and_true, Bool.and_self, and_self, and_true, true_and, leT, List.take_of_length_le, pureL, pureA, natNe, List.mem_cons, List.not_mem_nil, TyD.isAgg, Nat.add_assoc, List.map_nil, List.length_nil, Bool.true_and, Bool.false_and, Bool.and_false, Bool.not_true, Bool.not_false, Bool.false_eq_true, hf3, hf5, St.back, rowAt_aftJ, idsL, idsA, List.cons_append, List.nil_append, List.append_nil] <;> rfl))
    | ((first | apply W.ret2 | apply W.end2); (iterate 2 (try (simp (disch := (first | omega | (simp only [List.length_append, List.length_map, List.length_cons, List.length_nil, List.length_take, List.length_drop]; omega))) only [push_cast, simprocAttr, takeM, dropM, List.take_length, List.length_take, List.length_drop, List.all_append, List.all_cons, List.all_nil, Bool.and_true, Bool.and_self, and_self, and_true, true_and, leT, List.take_of_length_le, pureL, pureA, natNe, List.mem_cons, List.not_mem_nil, TyD.isAgg, Nat.add_assoc, List.map_nil, List.length_nil, Bool.true_and, Bool.false_and, Bool.and_false, Bool.not_true, Bool.not_false, Bool.false_eq_true, hf3, hf5, St.back, rowAt_aftJ, idsL, idsA, List.cons_append, List.nil_append, List.append_nil] <;> rfl))))

  refine AW.adopt 8 1 3 ?_ ?_
  · (simp (disch := omega) only [push_cast, simprocAttr, natNe, List.mem_cons, List.not_mem_nil, TyD.isAgg, Nat.add_assoc, List.map_nil, List.length_nil, Bool.and_self, Bool.and_true, Bool.true_and, Bool.false_and, Bool.and_false, Bool.not_true, Bool.not_false, Bool.false_eq_true, hf3, hf5, St.back, rowAt_aftJ, idsL, idsA, List.cons_append, List.nil_append, List.append_nil] <;> rfl)
  refine AW.loop (fun n s => ∃ (k : Nat) (O : List Int) (rest : List Key), n = rest.length ∧ (l.drop k = rest) ∧ (O ++ makersF rest m i = RES) ∧ (O.length ≤ k) ∧ (k ≤ l.length) ∧ 3 ≤ s.nx ∧ s.tm 4 = .ptr 0 0 0 1 ∧ s.tm 5 = .ptr 1 0 0 1 ∧ s.tm 8 = .ref 2 0 O.length ∧ s.tm 24 = lKey l ∧ s.tm 25 = ai l.length ∧ s.tm 26 = ai k ∧ Pg.rowAt s.H (0) = some ({ k := 5, es := [eMark m], ty := 42 }) ∧ Pg.rowAt s.H (1) = some ({ k := 3, es := [eInk i], ty := 48 }) ∧ Pg.rowAt s.H (2) = some ({ k := 1, es := O.map eInt, ty := 3, lo := O.length })) (l.length) ⟨0, [], l, rfl, rfl, hRES, (Nat.zero_le _), (Nat.zero_le _), ?_, ?_, ?_, ?_, ?_, ?_, ?_, ?_, ?_, ?_⟩ ?_
  iterate 10 (first | (simp (disch := omega) only [push_cast, simprocAttr, natNe, List.mem_cons, List.not_mem_nil, TyD.isAgg, Nat.add_assoc, List.map_nil, List.length_nil, Bool.and_self, Bool.and_true, Bool.true_and, Bool.false_and, Bool.and_false, Bool.not_true, Bool.not_false, Bool.false_eq_true, isEmpty_map, List.isEmpty_cons, List.map_append, List.map_cons, List.length_append, List.length_cons, Nat.zero_add, hf3, hf5, St.back, rowAt_aftJ, idsL, idsA, List.cons_append, List.nil_append, List.append_nil] <;> first | rfl | omega) | omega)
  rintro n1 s1 ⟨k1, O1, rest1, hn1, hp01, hp11, hp21, hp31, hnl1, hS1⟩
  have hZ1 : (0 : Nat) ≠ s1.nx ∧ s1.nx ≠ (0 : Nat) ∧ (1 : Nat) ≠ s1.nx ∧ s1.nx ≠ (1 : Nat) ∧ (2 : Nat) ≠ s1.nx ∧ s1.nx ≠ (2 : Nat) := by omega
  refine AW.fresh fun hfr1 => ?_
  rcases rest1 with _ | ⟨x, rest1⟩
  rotate_left
  · obtain ⟨hk, hg, hd', hl', hm', hx⟩ := drop_cons hp01 eKey []
    obtain ⟨_, _, x3, x4⟩ := keyV_iff.1 (hkv x hm')
    have c4 := made_ok x m i ⟨by omega, x4⟩ ms mb
    rw [makers_cons] at hp11
    cases hq : madeF x m i with
    | true =>
      rw [hq, if_pos rfl] at hp11
      rw [hq] at c4
      repeat' first
        | apply AW.seq | apply AW.region | apply AW.ret | apply AW.block | apply AW.skip | apply AW.exit | apply AW.scope | apply AW.label | apply AWL.nil
        | ((first | (apply W.step cx_ok; decide) | apply W.store cx_ok | (apply W.gS; rfl; decide) | apply AW.cond); (simp (disch := (first | omega | (simp only [List.length_append, List.length_map, List.length_cons, List.length_nil, List.length_take, List.length_drop, List.length_nil]; omega))) only [push_cast, simprocAttr, takeM, dropM, List.take_length, List.length_take, List.length_drop, List.all_append, List.all_cons, List.all_nil, Bool.and_true, Bool.and_self, and_self, and_true, true_and, leT, List.take_of_length_le, pureL, pureA, hS1, hZ1, natNe, List.mem_cons, List.not_mem_nil, TyD.isAgg, Nat.add_assoc, List.map_nil, List.length_nil, Bool.true_and, Bool.false_and, Bool.and_false, Bool.not_true, Bool.not_false, Bool.false_eq_true, isEmpty_map, List.isEmpty_cons, List.map_append, List.map_cons, List.length_append, List.length_cons, Nat.zero_add, hf3, hf5, St.back, rowAt_aftJ, idsL, idsA, List.cons_append, List.nil_append, List.append_nil, hk, hg, hx, hfr1] <;> rfl); all_goals try ((with_reducible intro hI); try first | (cases hI; done) | (simp only [INTS, not_true_eq_false] at hI; try first | (exfalso; omega) | (have hT : True := hI; clear hT hI))))
        | (apply W.append cx_ok; decide; rfl; rfl; rfl; decide; (iterate 3 (simp (disch := (first | omega | (simp only [List.length_append, List.length_map, List.length_cons, List.length_nil, List.length_take, List.length_drop, List.length_nil]; omega))) only [push_cast, simprocAttr, takeM, dropM, List.take_length, List.length_take, List.length_drop, List.all_append, List.all_cons, List.all_nil, Bool.and_true, Bool.and_self, and_self, and_true, true_and, leT, List.take_of_length_le, pureL, pureA, hS1, hZ1, natNe, List.mem_cons, List.not_mem_nil, TyD.isAgg, Nat.add_assoc, List.map_nil, List.length_nil, Bool.true_and, Bool.false_and, Bool.and_false, Bool.not_true, Bool.not_false, Bool.false_eq_true, isEmpty_map, List.isEmpty_cons, List.map_append, List.map_cons, List.length_append, List.length_cons, Nat.zero_add, hf3, hf5, St.back, rowAt_aftJ, idsL, idsA, List.cons_append, List.nil_append, List.append_nil, hk, hg, hx, hfr1] <;> rfl)); (first | (focus (simp; done)) | (intro c hc; obtain ⟨x, _, rfl⟩ := List.mem_map.1 hc; rfl)); ((first | rfl | simp (disch := omega) only [push_cast])); ((try dsimp only); (try simp only [List.length_map, List.length_append, List.length_cons, List.length_nil, List.length_take, List.length_drop, List.length_nil]); omega); ((try dsimp only); (try simp only [List.length_map, List.length_append, List.length_cons, List.length_nil, List.length_take, List.length_drop, List.length_nil]); omega))
        | ((apply W.callv cx_ok; decide); (iterate 2 (simp (disch := (first | omega | (simp only [List.length_append, List.length_map, List.length_cons, List.length_nil, List.length_take, List.length_drop, List.length_nil]; omega))) only [push_cast, simprocAttr, takeM, dropM, List.take_length, List.length_take, List.length_drop, List.all_append, List.all_cons, List.all_nil, Bool.and_true, Bool.and_self, and_self, and_true, true_and, leT, List.take_of_length_le, pureL, pureA, hS1, hZ1, natNe, List.mem_cons, List.not_mem_nil, TyD.isAgg, Nat.add_assoc, List.map_nil, List.length_nil, Bool.true_and, Bool.false_and, Bool.and_false, Bool.not_true, Bool.not_false, Bool.false_eq_true, isEmpty_map, List.isEmpty_cons, List.map_append, List.map_cons, List.length_append, List.length_cons, Nat.zero_add, hf3, hf5, St.back, rowAt_aftJ, idsL, idsA, List.cons_append, List.nil_append, List.append_nil, hk, hg, hx, hfr1] <;> rfl)); (with_reducible first | exact c4); try first | rfl | (simp (disch := (first | omega | (simp only [List.length_append, List.length_map, List.length_cons, List.length_nil, List.length_take, List.length_drop, List.length_nil]; omega))) only [push_cast, simprocAttr, takeM, dropM, List.take_length, List.length_take, List.length_drop, List.all_append, List.all_cons, List.all_nil, Bool.and_true, Bool.and_self, and_self, and_true, true_and, leT, List.take_of_length_le, pureL, pureA, hS1, hZ1, natNe, List.mem_cons, List.not_mem_nil, TyD.isAgg, Nat.add_assoc, List.map_nil, List.length_nil, Bool.true_and, Bool.false_and, Bool.and_false, Bool.not_true, Bool.not_false, Bool.false_eq_true, isEmpty_map, List.isEmpty_cons, List.map_append, List.map_cons, List.length_append, List.length_cons, Nat.zero_add, hf3, hf5, St.back, rowAt_aftJ, idsL, idsA, List.cons_append, List.nil_append, List.append_nil, hk, hg, hx, hfr1] <;> rfl))
        | ((first | apply W.ret2 | apply W.end2); (iterate 2 (try (simp (disch := (first | omega | (simp only [List.length_append, List.length_map, List.length_cons, List.length_nil, List.length_take, List.length_drop, List.length_nil]; omega))) only [push_cast, simprocAttr, takeM, dropM, List.take_length, List.length_take, List.length_drop, List.all_append, List.all_cons, List.all_nil, Bool.and_true, Bool.and_self, and_self, and_true, true_and, leT, List.take_of_length_le, pureL, pureA, hS1, hZ1, natNe, List.mem_cons, List.not_mem_nil, TyD.isAgg, Nat.add_assoc, List.map_nil, List.length_nil, Bool.true_and, Bool.false_and, Bool.and_false, Bool.not_true, Bool.not_false, Bool.false_eq_true, isEmpty_map, List.isEmpty_cons, List.map_append, List.map_cons, List.length_append, List.length_cons, Nat.zero_add, hf3, hf5, St.back, rowAt_aftJ, idsL, idsA, List.cons_append, List.nil_append, List.append_nil, hk, hg, hx, hfr1] <;> rfl))))

      all_goals (refine ⟨rest1.length, ?_, k1 + 1, (O1 ++ [x.id]), rest1, rfl, hd', (by rw [List.append_assoc]; exact hp11), (by rw [List.length_append, List.length_singleton]; omega), (by omega), ?_, ?_, ?_, ?_, ?_, ?_, ?_, ?_, ?_, ?_⟩; ((simp only [List.length_cons] at *; omega)); all_goals first | (simp (disch := omega) only [push_cast, simprocAttr, hS1, hZ1, hk, hg, hx, natNe, List.mem_cons, List.not_mem_nil, TyD.isAgg, Nat.add_assoc, List.map_nil, List.length_nil, Bool.and_self, Bool.and_true, Bool.true_and, Bool.false_and, Bool.and_false, Bool.not_true, Bool.not_false, Bool.false_eq_true, isEmpty_map, List.isEmpty_cons, List.map_append, List.map_cons, List.length_append, List.length_cons, Nat.zero_add, hf3, hf5, St.back, rowAt_aftJ, idsL, idsA, List.cons_append, List.nil_append, List.append_nil] <;> first | rfl | omega) | omega)
    | false =>
      rw [hq, if_neg Bool.false_ne_true] at hp11
      rw [hq] at c4
      repeat' first
        | apply AW.seq | apply AW.region | apply AW.ret | apply AW.block | apply AW.skip | apply AW.exit | apply AW.scope | apply AW.label | apply AWL.nil
        | ((first | (apply W.step cx_ok; decide) | apply W.store cx_ok | (apply W.gS; rfl; decide) | apply AW.cond); (simp (disch := (first | omega | (simp only [List.length_append, List.length_map, List.length_cons, List.length_nil, List.length_take, List.length_drop, List.length_nil]; omega))) only [push_cast, simprocAttr, takeM, dropM, List.take_length, List.length_take, List.length_drop, List.all_append, List.all_cons, List.all_nil, Bool.and_true, Bool.and_self, and_self, and_true, true_and, leT, List.take_of_length_le, pureL, pureA, hS1, hZ1, natNe, List.mem_cons, List.not_mem_nil, TyD.isAgg, Nat.add_assoc, List.map_nil, List.length_nil, Bool.true_and, Bool.false_and, Bool.and_false, Bool.not_true, Bool.not_false, Bool.false_eq_true, isEmpty_map, List.isEmpty_cons, List.map_append, List.map_cons, List.length_append, List.length_cons, Nat.zero_add, hf3, hf5, St.back, rowAt_aftJ, idsL, idsA, List.cons_append, List.nil_append, List.append_nil, hk, hg, hx, hfr1] <;> rfl); all_goals try ((with_reducible intro hI); try first | (cases hI; done) | (simp only [INTS, not_true_eq_false] at hI; try first | (exfalso; omega) | (have hT : True := hI; clear hT hI))))
        | (apply W.append cx_ok; decide; rfl; rfl; rfl; decide; (iterate 3 (simp (disch := (first | omega | (simp only [List.length_append, List.length_map, List.length_cons, List.length_nil, List.length_take, List.length_drop, List.length_nil]; omega))) only [push_cast, simprocAttr, takeM, dropM, List.take_length, List.length_take, List.length_drop, List.all_append, List.all_cons, List.all_nil, Bool.and_true, Bool.and_self, and_self, and_true, true_and, leT, List.take_of_length_le, pureL, pureA, hS1, hZ1, natNe, List.mem_cons, List.not_mem_nil, TyD.isAgg, Nat.add_assoc, List.map_nil, List.length_nil, Bool.true_and, Bool.false_and, Bool.and_false, Bool.not_true, Bool.not_false, Bool.false_eq_true, isEmpty_map, List.isEmpty_cons, List.map_append, List.map_cons, List.length_append, List.length_cons, Nat.zero_add, hf3, hf5, St.back, rowAt_aftJ, idsL, idsA, List.cons_append, List.nil_append, List.append_nil, hk, hg, hx, hfr1] <;> rfl)); (first | (focus (simp; done)) | (intro c hc; obtain ⟨x, _, rfl⟩ := List.mem_map.1 hc; rfl)); ((first | rfl | simp (disch := omega) only [push_cast])); ((try dsimp only); (try simp only [List.length_map, List.length_append, List.length_cons, List.length_nil, List.length_take, List.length_drop, List.length_nil]); omega); ((try dsimp only); (try simp only [List.length_map, List.length_append, List.length_cons, List.length_nil, List.length_take, List.length_drop, List.length_nil]); omega))
        | ((apply W.callv cx_ok; decide); (iterate 2 (simp (disch := (first | omega | (simp only [List.length_append, List.length_map, List.length_cons, List.length_nil, List.length_take, List.length_drop, List.length_nil]; omega))) only [push_cast, simprocAttr, takeM, dropM, List.take_length, List.length_take, List.length_drop, List.all_append, List.all_cons, List.all_nil, Bool.and_true, Bool.and_self, and_self, and_true, true_and, leT, List.take_of_length_le, pureL, pureA, hS1, hZ1, natNe, List.mem_cons, List.not_mem_nil, TyD.isAgg, Nat.add_assoc, List.map_nil, List.length_nil, Bool.true_and, Bool.false_and, Bool.and_false, Bool.not_true, Bool.not_false, Bool.false_eq_true, isEmpty_map, List.isEmpty_cons, List.map_append, List.map_cons, List.length_append, List.length_cons, Nat.zero_add, hf3, hf5, St.back, rowAt_aftJ, idsL, idsA, List.cons_append, List.nil_append, List.append_nil, hk, hg, hx, hfr1] <;> rfl)); (with_reducible first | exact c4); try first | rfl | (simp (disch := (first | omega | (simp only [List.length_append, List.length_map, List.length_cons, List.length_nil, List.length_take, List.length_drop, List.length_nil]; omega))) only [push_cast, simprocAttr, takeM, dropM, List.take_length, List.length_take, List.length_drop, List.all_append, List.all_cons, List.all_nil, Bool.and_true, Bool.and_self, and_self, and_true, true_and, leT, List.take_of_length_le, pureL, pureA, hS1, hZ1, natNe, List.mem_cons, List.not_mem_nil, TyD.isAgg, Nat.add_assoc, List.map_nil, List.length_nil, Bool.true_and, Bool.false_and, Bool.and_false, Bool.not_true, Bool.not_false, Bool.false_eq_true, isEmpty_map, List.isEmpty_cons, List.map_append, List.map_cons, List.length_append, List.length_cons, Nat.zero_add, hf3, hf5, St.back, rowAt_aftJ, idsL, idsA, List.cons_append, List.nil_append, List.append_nil, hk, hg, hx, hfr1] <;> rfl))
        | ((first | apply W.ret2 | apply W.end2); (iterate 2 (try (simp (disch := (first | omega | (simp only [List.length_append, List.length_map, List.length_cons, List.length_nil, List.length_take, List.length_drop, List.length_nil]; omega))) only [push_cast, simprocAttr, takeM, dropM, List.take_length, List.length_take, List.length_drop, List.all_append, List.all_cons, List.all_nil, Bool.and_true, Bool.and_self, and_self, and_true, true_and, leT, List.take_of_length_le, pureL, pureA, hS1, hZ1, natNe, List.mem_cons, List.not_mem_nil, TyD.isAgg, Nat.add_assoc, List.map_nil, List.length_nil, Bool.true_and, Bool.false_and, Bool.and_false, Bool.not_true, Bool.not_false, Bool.false_eq_true, isEmpty_map, List.isEmpty_cons, List.map_append, List.map_cons, List.length_append, List.length_cons, Nat.zero_add, hf3, hf5, St.back, rowAt_aftJ, idsL, idsA, List.cons_append, List.nil_append, List.append_nil, hk, hg, hx, hfr1] <;> rfl))))

      all_goals (refine ⟨rest1.length, ?_, k1 + 1, O1, rest1, rfl, hd', hp11, (by omega), (by omega), ?_, ?_, ?_, ?_, ?_, ?_, ?_, ?_, ?_, ?_⟩; ((simp only [List.length_cons] at *; omega)); all_goals first | (simp (disch := omega) only [push_cast, simprocAttr, hS1, hZ1, hk, hg, hx, natNe, List.mem_cons, List.not_mem_nil, TyD.isAgg, Nat.add_assoc, List.map_nil, List.length_nil, Bool.and_self, Bool.and_true, Bool.true_and, Bool.false_and, Bool.and_false, Bool.not_true, Bool.not_false, Bool.false_eq_true, isEmpty_map, List.isEmpty_cons, List.map_append, List.map_cons, List.length_append, List.length_cons, Nat.zero_add, hf3, hf5, St.back, rowAt_aftJ, idsL, idsA, List.cons_append, List.nil_append, List.append_nil] <;> first | rfl | omega) | omega)
  have hk := drop_nil hp01
  have hq : O1 = RES := by rw [← hp11]; exact (List.append_nil _).symm
  subst hq
  repeat' first
    | apply AW.seq | apply AW.region | apply AW.ret | apply AW.block | apply AW.skip | apply AW.exit | apply AW.scope | apply AW.label | apply AWL.nil
    | ((first | (apply W.step cx_ok; decide) | apply W.store cx_ok | (apply W.gS; rfl; decide) | apply AW.cond); (simp (disch := (first | omega | (simp only [List.length_append, List.length_map, List.length_cons, List.length_nil, List.length_take, List.length_drop, List.length_nil]; omega))) only [push_cast, simprocAttr, takeM, dropM, List.take_length, List.length_take, List.length_drop, List.all_append, List.all_cons, List.all_nil, Bool.and_true, Bool.and_self, and_self, and_true, true_and, leT, List.take_of_length_le, pureL, pureA, hS1, hZ1, natNe, List.mem_cons, List.not_mem_nil, TyD.isAgg, Nat.add_assoc, List.map_nil, List.length_nil, Bool.true_and, Bool.false_and, Bool.and_false, Bool.not_true, Bool.not_false, Bool.false_eq_true, isEmpty_map, List.isEmpty_cons, List.map_append, List.map_cons, List.length_append, List.length_cons, Nat.zero_add, hf3, hf5, St.back, rowAt_aftJ, idsL, idsA, List.cons_append, List.nil_append, List.append_nil, hk] <;> rfl); all_goals try ((with_reducible intro hI); try first | (cases hI; done) | (simp only [INTS, not_true_eq_false] at hI; try first | (exfalso; omega) | (have hT : True := hI; clear hT hI))))
    | (apply W.append cx_ok; decide; rfl; rfl; rfl; decide; (iterate 3 (simp (disch := (first | omega | (simp only [List.length_append, List.length_map, List.length_cons, List.length_nil, List.length_take, List.length_drop, List.length_nil]; omega))) only [push_cast, simprocAttr, takeM, dropM, List.take_length, List.length_take, List.length_drop, List.all_append, List.all_cons, List.all_nil, Bool.and_true, Bool.and_self, and_self, and_true, true_and, leT, List.take_of_length_le, pureL, pureA, hS1, hZ1, natNe, List.mem_cons, List.not_mem_nil, TyD.isAgg, Nat.add_assoc, List.map_nil, List.length_nil, Bool.true_and, Bool.false_and, Bool.and_false, Bool.not_true, Bool.not_false, Bool.false_eq_true, isEmpty_map, List.isEmpty_cons, List.map_append, List.map_cons, List.length_append, List.length_cons, Nat.zero_add, hf3, hf5, St.back, rowAt_aftJ, idsL, idsA, List.cons_append, List.nil_append, List.append_nil, hk] <;> rfl)); (first | (focus (simp; done)) | (intro c hc; obtain ⟨x, _, rfl⟩ := List.mem_map.1 hc; rfl)); ((first | rfl | simp (disch := omega) only [push_cast])); ((try dsimp only); (try simp only [List.length_map, List.length_append, List.length_cons, List.length_nil, List.length_take, List.length_drop, List.length_nil]); omega); ((try dsimp only); (try simp only [List.length_map, List.length_append, List.length_cons, List.length_nil, List.length_take, List.length_drop, List.length_nil]); omega))
    | ((first | apply W.ret2 | apply W.end2); (iterate 2 (try (simp (disch := (first | omega | (simp only [List.length_append, List.length_map, List.length_cons, List.length_nil, List.length_take, List.length_drop, List.length_nil]; omega))) only [push_cast, simprocAttr, takeM, dropM, List.take_length, List.length_take, List.length_drop, List.all_append, List.all_cons, List.all_nil, Bool.and_true, Bool.and_self, and_self, and_true, true_and, leT, List.take_of_length_le, pureL, pureA, hS1, hZ1, natNe, List.mem_cons, List.not_mem_nil, TyD.isAgg, Nat.add_assoc, List.map_nil, List.length_nil, Bool.true_and, Bool.false_and, Bool.and_false, Bool.not_true, Bool.not_false, Bool.false_eq_true, isEmpty_map, List.isEmpty_cons, List.map_append, List.map_cons, List.length_append, List.length_cons, Nat.zero_add, hf3, hf5, St.back, rowAt_aftJ, idsL, idsA, List.cons_append, List.nil_append, List.append_nil, hk] <;> rfl))))

  all_goals (show _ = _; rfl)
def withinF (l : List Int) (n : Int) : Bool := l.any fun x => decide (x = n)
theorem within_ok (l : List Int) (n0 : Int) (hl : l.length ≤ 1099511627776) : OKv cx 72 [lInt l, ai n0] (ab (withinF l n0)) := by
  obtain ⟨R, hR⟩ : ∃ z, withinF l n0 = z := ⟨_, rfl⟩
  rw [hR]
  refine OKat.of_body (rs := [4]) Tryd.func72 rfl (by decide +kernel) rfl (by simp [Tryd.ntmps72]) ?_
  simp only [Tryd.ntmps72]
  repeat' first
    | apply AW.seq | apply AW.region | apply AW.ret | apply AW.block | apply AW.skip | apply AW.exit | apply AW.scope | apply AW.label | apply AWL.nil
    | ((first | (apply W.step cx_ok; decide) | apply AW.cond); (simp (disch := omega) only [push_cast, simprocAttr, natNe, List.mem_cons, List.not_mem_nil, TyD.isAgg, Nat.add_assoc, List.map_nil, List.length_nil, Bool.and_self, Bool.and_true, Bool.true_and, Bool.false_and, Bool.and_false, Bool.not_true, Bool.not_false, Bool.false_eq_true] <;> rfl); all_goals try ((with_reducible intro hI); try first | (cases hI; done) | (simp only [INTS, not_true_eq_false] at hI; try first | (exfalso; omega) | (have hT : True := hI; clear hT hI))))
    | ((first | apply W.ret1 | apply W.end1); (iterate 2 (try (simp (disch := omega) only [push_cast, simprocAttr, natNe, List.mem_cons, List.not_mem_nil, TyD.isAgg, Nat.add_assoc, List.map_nil, List.length_nil, Bool.and_self, Bool.and_true, Bool.true_and, Bool.false_and, Bool.and_false, Bool.not_true, Bool.not_false, Bool.false_eq_true] <;> rfl))))

  refine AW.loop (fun n s => ∃ (k : Nat) (rest : List Int), n = rest.length ∧ (l.drop k = rest) ∧ (withinF rest n0 = R) ∧ s.tm 0 = lInt l ∧ s.tm 1 = ai n0 ∧ s.tm 5 = ai k) (l.length) ⟨0, l, rfl, rfl, hR, ?_, ?_, ?_⟩ ?_
  iterate 3 (first | (simp (disch := omega) only [push_cast, simprocAttr, natNe, List.mem_cons, List.not_mem_nil, TyD.isAgg, Nat.add_assoc, List.map_nil, List.length_nil, Bool.and_self, Bool.and_true, Bool.true_and, Bool.false_and, Bool.and_false, Bool.not_true, Bool.not_false, Bool.false_eq_true] <;> first | rfl | omega) | omega)
  rintro n1 s1 ⟨k1, rest1, hn1, hp01, hp11, hS1⟩
  rcases rest1 with _ | ⟨x, rest1⟩
  · have hk := drop_nil hp01
    have hq : false = R := hp11
    subst hq
    repeat' first
      | apply AW.seq | apply AW.region | apply AW.ret | apply AW.block | apply AW.skip | apply AW.exit | apply AW.scope | apply AW.label | apply AWL.nil
      | ((first | (apply W.step cx_ok; decide) | apply AW.cond); (simp (disch := omega) only [push_cast, simprocAttr, hS1, natNe, List.mem_cons, List.not_mem_nil, TyD.isAgg, Nat.add_assoc, List.map_nil, List.length_nil, Bool.and_self, Bool.and_true, Bool.true_and, Bool.false_and, Bool.and_false, Bool.not_true, Bool.not_false, Bool.false_eq_true, hk] <;> rfl); all_goals try ((with_reducible intro hI); try first | (cases hI; done) | (simp only [INTS, not_true_eq_false] at hI; try first | (exfalso; omega) | (have hT : True := hI; clear hT hI))))
      | ((first | apply W.ret1 | apply W.end1); (iterate 2 (try (simp (disch := omega) only [push_cast, simprocAttr, hS1, natNe, List.mem_cons, List.not_mem_nil, TyD.isAgg, Nat.add_assoc, List.map_nil, List.length_nil, Bool.and_self, Bool.and_true, Bool.true_and, Bool.false_and, Bool.and_false, Bool.not_true, Bool.not_false, Bool.false_eq_true, hk] <;> rfl))))

    all_goals (show _ = _; rfl)
  · obtain ⟨hk, hg, hd', hl', hm', hx⟩ := drop_cons hp01 eInt []
    have hp : (decide (x = n0) || withinF rest1 n0) = R := hp11
    by_cases g : x = n0
    · have gT := eq_true g
      have gB : (x == n0) = true := by simpa using g
      rw [decide_eq_true g, Bool.true_or] at hp
      subst hp
      repeat' first
        | apply AW.seq | apply AW.region | apply AW.ret | apply AW.block | apply AW.skip | apply AW.exit | apply AW.scope | apply AW.label | apply AWL.nil
        | ((first | (apply W.step cx_ok; decide) | apply AW.cond); (simp (disch := omega) only [push_cast, simprocAttr, hS1, natNe, List.mem_cons, List.not_mem_nil, TyD.isAgg, Nat.add_assoc, List.map_nil, List.length_nil, Bool.and_self, Bool.and_true, Bool.true_and, Bool.false_and, Bool.and_false, Bool.not_true, Bool.not_false, Bool.false_eq_true, hk, hg, hx, gT, gB] <;> rfl); all_goals try ((with_reducible intro hI); try first | (cases hI; done) | (simp only [INTS, not_true_eq_false] at hI; try first | (exfalso; omega) | (have hT : True := hI; clear hT hI))))
        | ((first | apply W.ret1 | apply W.end1); (iterate 2 (try (simp (disch := omega) only [push_cast, simprocAttr, hS1, natNe, List.mem_cons, List.not_mem_nil, TyD.isAgg, Nat.add_assoc, List.map_nil, List.length_nil, Bool.and_self, Bool.and_true, Bool.true_and, Bool.false_and, Bool.and_false, Bool.not_true, Bool.not_false, Bool.false_eq_true, hk, hg, hx, gT, gB] <;> rfl))))

      all_goals (show _ = _; rfl)
    · have gF := eq_false g
      have gB : (x == n0) = false := by simpa using g
      rw [decide_eq_false g, Bool.false_or] at hp
      repeat' first
        | apply AW.seq | apply AW.region | apply AW.ret | apply AW.block | apply AW.skip | apply AW.exit | apply AW.scope | apply AW.label | apply AWL.nil
        | ((first | (apply W.step cx_ok; decide) | apply AW.cond); (simp (disch := omega) only [push_cast, simprocAttr, hS1, natNe, List.mem_cons, List.not_mem_nil, TyD.isAgg, Nat.add_assoc, List.map_nil, List.length_nil, Bool.and_self, Bool.and_true, Bool.true_and, Bool.false_and, Bool.and_false, Bool.not_true, Bool.not_false, Bool.false_eq_true, hk, hg, hx, gF, gB] <;> rfl); all_goals try ((with_reducible intro hI); try first | (cases hI; done) | (simp only [INTS, not_true_eq_false] at hI; try first | (exfalso; omega) | (have hT : True := hI; clear hT hI))))
        | ((first | apply W.ret1 | apply W.end1); (iterate 2 (try (simp (disch := omega) only [push_cast, simprocAttr, hS1, natNe, List.mem_cons, List.not_mem_nil, TyD.isAgg, Nat.add_assoc, List.map_nil, List.length_nil, Bool.and_self, Bool.and_true, Bool.true_and, Bool.false_and, Bool.and_false, Bool.not_true, Bool.not_false, Bool.false_eq_true, hk, hg, hx, gF, gB] <;> rfl))))

      all_goals (refine ⟨rest1.length, ?_, k1 + 1, rest1, rfl, hd', hp, ?_, ?_, ?_⟩; ((simp only [List.length_cons] at *; omega)); all_goals first | (simp (disch := omega) only [push_cast, simprocAttr, hS1, hk, hg, hx, gF, gB, natNe, List.mem_cons, List.not_mem_nil, TyD.isAgg, Nat.add_assoc, List.map_nil, List.length_nil, Bool.and_self, Bool.and_true, Bool.true_and, Bool.false_and, Bool.and_false, Bool.not_true, Bool.not_false, Bool.false_eq_true] <;> first | rfl | omega) | omega)
end Go.Proofs.Ds
