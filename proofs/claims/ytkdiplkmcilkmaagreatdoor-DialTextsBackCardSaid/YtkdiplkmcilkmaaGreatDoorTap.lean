/-
  Contracts of functions, proved by going through their code. No conditions.
-/
import Derived.Sort.Grow
import Derived.Lib.SlicesCompact
import Derived.Shelf.GgSortFunc.RowK
import Derived.Test.YtkdiplkmcilkmaaGreatDoorTak
import Derived.Test.YtkdiplkmcilkmaaGreatDoorTam
import Derived.Test.YtkdiplkmcilkmaaGreatDoorTao
set_option linter.unusedVariables false
set_option linter.unusedSimpArgs false
set_option maxHeartbeats 8000000
set_option maxRecDepth 10000
namespace Go.Proofs.Dz
open Go Go.Pg Go.Proofs Go.Proofs.Ds
def jo (O rest : List Span) : List Span := if O = [] then joinS rest else O.take (O.length - 1) ++ joinC (O.getD (O.length - 1) default) rest
theorem jo_nil (O : List Span) : jo O [] = O := by
  unfold jo
  split
  · rename_i h; subst h; rfl
  · rename_i h
    have hp : O.length - 1 < O.length := by have := List.length_pos_iff.2 h; omega
    rw [joinC, List.getD_eq_getElem?_getD, List.getElem?_eq_getElem hp, Option.getD_some]
    have e : O.take (O.length - 1) ++ [O[O.length - 1]] = O.take (O.length - 1 + 1) := by rw [List.take_succ_eq_append_getElem hp]
    rw [e, List.take_of_length_le (by omega)]
theorem jo_first (s : Span) (rest : List Span) : jo [s] rest = jo [] (s :: rest) := by
  unfold jo
  rw [if_neg (by simp), if_pos rfl]; rfl
theorem jo_grow {O : List Span} {s : Span} {rest : List Span} (h : O ≠ []) (e : s.lo ≤ (O.getD (O.length - 1) default).hi + 1) : jo (O.set (O.length - 1) ⟨(O.getD (O.length - 1) default).lo, max (O.getD (O.length - 1) default).hi s.hi⟩) rest = jo O (s :: rest) := by
  have hp : O.length - 1 < O.length := by have := List.length_pos_iff.2 h; omega
  unfold jo
  rw [if_neg (by intro he; have := congrArg List.length he; simp at this; exact h this), if_neg h, List.length_set, List.take_set_of_le (by omega), joinC, if_pos e]
  congr 2
  rw [List.getD_eq_getElem?_getD, List.getElem?_set_self (by omega)]; rfl
theorem jo_push {O : List Span} {s : Span} {rest : List Span} (h : O ≠ []) (e : ¬ s.lo ≤ (O.getD (O.length - 1) default).hi + 1) : jo (O ++ [s]) rest = jo O (s :: rest) := by
  have hp : O.length - 1 < O.length := by have := List.length_pos_iff.2 h; omega
  have hO := jo_nil O
  unfold jo at hO ⊢
  rw [if_neg h, joinC] at hO
  rw [if_neg (by simp), if_neg h, joinC, if_neg e, List.length_append, List.length_singleton, Nat.add_sub_cancel, List.take_left, show (O ++ [s]).getD O.length default = s by simp [List.getD_eq_getElem?_getD]]
  conv => lhs; rw [← hO]
  rw [List.append_assoc]; rfl
theorem spans_ok (A : List Arc) (hv : ∀ x ∈ A, validA x = true) (hP : (piecesL A).length ≤ 1000000)
    (hsf : OKat cx 86 [.clo 106 [.iptr [lArc A] 0], .clo 88 []] (fun r => ∃ m : List Span, r = lSpan m ∧ m.Perm (piecesL A) ∧ m.Pairwise (fun s t => s.lo ≤ t.lo))) : OKv cx 66 [lArc A] (lSpan (spansS A)) := by
  have c1 := pieces_ok A
  refine OKat.of_body (rs := [2]) Tryz.func66 rfl (by decide +kernel) rfl (by simp [Tryz.ntmps66]) ?_
  simp only [Tryz.ntmps66]
  repeat' first
    | apply AW.seq | apply AW.region | apply AW.ret | apply AW.block | apply AW.skip | apply AW.exit | apply AW.scope | apply AW.label | apply AWL.nil | apply D.nil
    | refine W.draw cx_mixed (by decide +kernel) ?_
    | ((first | (apply W.step cx_ok; decide) | (apply D.step cx_ok; decide; decide) | apply W.store cx_ok | (apply W.gS; rfl; decide) | (apply D.gS; rfl; decide; decide) | apply AW.cond); (simp (disch := (first | omega | (simp only [List.length_append, List.length_map, List.length_cons, List.length_nil, List.length_take, List.length_drop]; omega))) only [push_cast, simprocAttr, takeM, dropM, List.take_length, List.length_take, List.length_drop, List.all_append, List.all_cons, List.all_nil, Bool.and_true, Bool.and_self, and_self, and_true, true_and, leT, List.take_of_length_le, pureL, pureA, natNe, List.mem_cons, List.not_mem_nil, TyD.isAgg, Nat.add_assoc, isEmpty_map, List.isEmpty_cons, Bool.false_eq_true, List.map_append, List.map_cons, List.map_nil, List.length_append, List.length_cons, List.length_nil, Nat.zero_add] <;> rfl); all_goals try ((with_reducible intro hI); try first | (cases hI; done) | (simp only [INTS, not_true_eq_false] at hI; try first | (exfalso; omega) | (have hT : True := hI; clear hT hI))))
    | (apply W.append cx_ok; decide; rfl; rfl; rfl; decide; (iterate 3 (simp (disch := (first | omega | (simp only [List.length_append, List.length_map, List.length_cons, List.length_nil, List.length_take, List.length_drop]; omega))) only [push_cast, simprocAttr, takeM, dropM, List.take_length, List.length_take, List.length_drop, List.all_append, List.all_cons, List.all_nil, Bool.and_true, Bool.and_self, and_self, and_true, true_and, leT, List.take_of_length_le, pureL, pureA, natNe, List.mem_cons, List.not_mem_nil, TyD.isAgg, Nat.add_assoc, isEmpty_map, List.isEmpty_cons, Bool.false_eq_true, List.map_append, List.map_cons, List.map_nil, List.length_append, List.length_cons, List.length_nil, Nat.zero_add] <;> rfl)); (first | (focus (simp; done)) | (intro c hc; obtain ⟨x, _, rfl⟩ := List.mem_map.1 hc; rfl)); ((first | rfl | simp (disch := omega) only [push_cast])); ((try dsimp only); (try simp only [List.length_map, List.length_append, List.length_cons, List.length_nil, List.length_take, List.length_drop]); omega); ((try dsimp only); (try simp only [List.length_map, List.length_append, List.length_cons, List.length_nil, List.length_take, List.length_drop]); omega))
    | ((first | (apply W.callv cx_ok; decide) | (apply D.callv cx_ok; decide; decide)); (iterate 2 (simp (disch := (first | omega | (simp only [List.length_append, List.length_map, List.length_cons, List.length_nil, List.length_take, List.length_drop]; omega))) only [push_cast, simprocAttr, takeM, dropM, List.take_length, List.length_take, List.length_drop, List.all_append, List.all_cons, List.all_nil, Bool.and_true, Bool.and_self, and_self, and_true, true_and, leT, List.take_of_length_le, pureL, pureA, natNe, List.mem_cons, List.not_mem_nil, TyD.isAgg, Nat.add_assoc, isEmpty_map, List.isEmpty_cons, Bool.false_eq_true, List.map_append, List.map_cons, List.map_nil, List.length_append, List.length_cons, List.length_nil, Nat.zero_add] <;> rfl)); (with_reducible first | exact c1); try first | rfl | (simp (disch := (first | omega | (simp only [List.length_append, List.length_map, List.length_cons, List.length_nil, List.length_take, List.length_drop]; omega))) only [push_cast, simprocAttr, takeM, dropM, List.take_length, List.length_take, List.length_drop, List.all_append, List.all_cons, List.all_nil, Bool.and_true, Bool.and_self, and_self, and_true, true_and, leT, List.take_of_length_le, pureL, pureA, natNe, List.mem_cons, List.not_mem_nil, TyD.isAgg, Nat.add_assoc, isEmpty_map, List.isEmpty_cons, Bool.false_eq_true, List.map_append, List.map_cons, List.map_nil, List.length_append, List.length_cons, List.length_nil, Nat.zero_add] <;> rfl))
    | ((first | apply W.ret1 | apply W.end1); (iterate 2 (try (simp (disch := (first | omega | (simp only [List.length_append, List.length_map, List.length_cons, List.length_nil, List.length_take, List.length_drop]; omega))) only [push_cast, simprocAttr, takeM, dropM, List.take_length, List.length_take, List.length_drop, List.all_append, List.all_cons, List.all_nil, Bool.and_true, Bool.and_self, and_self, and_true, true_and, leT, List.take_of_length_le, pureL, pureA, natNe, List.mem_cons, List.not_mem_nil, TyD.isAgg, Nat.add_assoc, isEmpty_map, List.isEmpty_cons, Bool.false_eq_true, List.map_append, List.map_cons, List.map_nil, List.length_append, List.length_cons, List.length_nil, Nat.zero_add] <;> rfl))))

  refine W.call cx_ok (by decide) (f := 86) (caps := []) (by simp (disch := omega) only [push_cast, simprocAttr, natNe, List.mem_cons, List.not_mem_nil, TyD.isAgg, Nat.add_assoc, isEmpty_map, List.isEmpty_cons, Bool.false_eq_true, List.map_append, List.map_cons, List.map_nil, List.length_append, List.length_cons, List.length_nil, Nat.zero_add] <;> rfl) (by simp (disch := omega) only [push_cast, simprocAttr, natNe, List.mem_cons, List.not_mem_nil, TyD.isAgg, Nat.add_assoc, isEmpty_map, List.isEmpty_cons, Bool.false_eq_true, List.map_append, List.map_cons, List.map_nil, List.length_append, List.length_cons, List.length_nil, Nat.zero_add] <;> rfl) hsf ?_
  rintro _ ⟨m, rfl, hp, hs⟩
  rw [← joined_eq hv hp hs]
  have hml : m.length ≤ 1000000 := by rw [hp.length_eq]; exact hP
  have hmi : ∀ s ∈ m, s.lo ≤ s.hi ∧ 0 ≤ s.lo ∧ s.hi ≤ 43199 := fun s h => piecesL_ok hv s (hp.subset h)
  clear hp hs hsf hP c1
  obtain ⟨RES, hRES⟩ : ∃ z, joinS m = z := ⟨_, rfl⟩
  rw [hRES]
  repeat' first
    | apply AW.seq | apply AW.region | apply AW.ret | apply AW.block | apply AW.skip | apply AW.exit | apply AW.scope | apply AW.label | apply AWL.nil | apply D.nil
    | refine W.draw cx_mixed (by decide +kernel) ?_
    | ((first | (apply W.step cx_ok; decide) | (apply D.step cx_ok; decide; decide) | apply W.store cx_ok | (apply W.gS; rfl; decide) | (apply D.gS; rfl; decide; decide) | apply AW.cond); (simp (disch := (first | omega | (simp only [List.length_append, List.length_map, List.length_cons, List.length_nil, List.length_take, List.length_drop]; omega))) only [push_cast, simprocAttr, takeM, dropM, List.take_length, List.length_take, List.length_drop, List.all_append, List.all_cons, List.all_nil, Bool.and_true, Bool.and_self, and_self, and_true, true_and, leT, List.take_of_length_le, pureL, pureA, natNe, List.mem_cons, List.not_mem_nil, TyD.isAgg, Nat.add_assoc, isEmpty_map, List.isEmpty_cons, Bool.false_eq_true, List.map_append, List.map_cons, List.map_nil, List.length_append, List.length_cons, List.length_nil, Nat.zero_add, flatA, idsL, idsA] <;> rfl); all_goals try ((with_reducible intro hI); try first | (cases hI; done) | (simp only [INTS, not_true_eq_false] at hI; try first | (exfalso; omega) | (have hT : True := hI; clear hT hI))))
    | (apply W.append cx_ok; decide; rfl; rfl; rfl; decide; (iterate 3 (simp (disch := (first | omega | (simp only [List.length_append, List.length_map, List.length_cons, List.length_nil, List.length_take, List.length_drop]; omega))) only [push_cast, simprocAttr, takeM, dropM, List.take_length, List.length_take, List.length_drop, List.all_append, List.all_cons, List.all_nil, Bool.and_true, Bool.and_self, and_self, and_true, true_and, leT, List.take_of_length_le, pureL, pureA, natNe, List.mem_cons, List.not_mem_nil, TyD.isAgg, Nat.add_assoc, isEmpty_map, List.isEmpty_cons, Bool.false_eq_true, List.map_append, List.map_cons, List.map_nil, List.length_append, List.length_cons, List.length_nil, Nat.zero_add, flatA, idsL, idsA] <;> rfl)); (first | (focus (simp; done)) | (intro c hc; obtain ⟨x, _, rfl⟩ := List.mem_map.1 hc; rfl)); ((first | rfl | simp (disch := omega) only [push_cast])); ((try dsimp only); (try simp only [List.length_map, List.length_append, List.length_cons, List.length_nil, List.length_take, List.length_drop]); omega); ((try dsimp only); (try simp only [List.length_map, List.length_append, List.length_cons, List.length_nil, List.length_take, List.length_drop]); omega))
    | ((first | apply W.ret1 | apply W.end1); (iterate 2 (try (simp (disch := (first | omega | (simp only [List.length_append, List.length_map, List.length_cons, List.length_nil, List.length_take, List.length_drop]; omega))) only [push_cast, simprocAttr, takeM, dropM, List.take_length, List.length_take, List.length_drop, List.all_append, List.all_cons, List.all_nil, Bool.and_true, Bool.and_self, and_self, and_true, true_and, leT, List.take_of_length_le, pureL, pureA, natNe, List.mem_cons, List.not_mem_nil, TyD.isAgg, Nat.add_assoc, isEmpty_map, List.isEmpty_cons, Bool.false_eq_true, List.map_append, List.map_cons, List.map_nil, List.length_append, List.length_cons, List.length_nil, Nat.zero_add, flatA, idsL, idsA] <;> rfl))))

  refine AW.adopt 4 2 112 ?_ ?_
  · (simp (disch := omega) only [push_cast, simprocAttr, natNe, List.mem_cons, List.not_mem_nil, TyD.isAgg, Nat.add_assoc, isEmpty_map, List.isEmpty_cons, Bool.false_eq_true, List.map_append, List.map_cons, List.map_nil, List.length_append, List.length_cons, List.length_nil, Nat.zero_add] <;> rfl)
  refine AW.loop (fun n s => ∃ (k : Nat) (O : List Span) (rest : List Span), n = rest.length ∧ (m.drop k = rest) ∧ (jo O rest = RES) ∧ (O.length ≤ k) ∧ (k ≤ m.length) ∧ (∀ s ∈ O, 0 ≤ s.lo ∧ s.lo ≤ s.hi ∧ s.hi ≤ 43199) ∧ 1 ≤ s.nx ∧ s.tm 4 = .ref 0 0 O.length ∧ s.tm 11 = lSpan m ∧ s.tm 12 = ai m.length ∧ s.tm 13 = ai k ∧ Pg.rowAt s.H (0) = some ({ k := 2, es := O.map eSpan, ty := 112, lo := O.length })) (m.length) ⟨0, [], m, rfl, rfl, hRES, (Nat.zero_le _), (Nat.zero_le _), (fun s h => by cases h), ?_, ?_, ?_, ?_, ?_, ?_⟩ ?_
  iterate 6 (first | (simp (disch := omega) only [push_cast, simprocAttr, natNe, List.mem_cons, List.not_mem_nil, TyD.isAgg, Nat.add_assoc, isEmpty_map, List.isEmpty_cons, Bool.false_eq_true, List.map_append, List.map_cons, List.map_nil, List.length_append, List.length_cons, List.length_nil, Nat.zero_add] <;> first | rfl | omega) | omega)
  rintro n1 s1 ⟨k1, O1, rest1, hn1, hp01, hp11, hp21, hp31, hp41, hnl1, hS1⟩
  have hZ1 : (0 : Nat) ≠ s1.nx ∧ s1.nx ≠ (0 : Nat) := by omega
  rcases rest1 with _ | ⟨x, rest1⟩
  · have hk := drop_nil hp01
    rw [jo_nil] at hp11
    subst hp11
    repeat' first
      | apply AW.seq | apply AW.region | apply AW.ret | apply AW.block | apply AW.skip | apply AW.exit | apply AW.scope | apply AW.label | apply AWL.nil | apply D.nil
      | refine W.draw cx_mixed (by decide +kernel) ?_
      | ((first | (apply W.step cx_ok; decide) | (apply D.step cx_ok; decide; decide) | apply W.store cx_ok | (apply W.gS; rfl; decide) | (apply D.gS; rfl; decide; decide) | apply AW.cond); (simp (disch := (first | omega | (simp only [List.length_append, List.length_map, List.length_cons, List.length_nil, List.length_take, List.length_drop, List.length_nil]; omega))) only [push_cast, simprocAttr, takeM, dropM, List.take_length, List.length_take, List.length_drop, List.all_append, List.all_cons, List.all_nil, Bool.and_true, Bool.and_self, and_self, and_true, true_and, leT, List.take_of_length_le, pureL, pureA, hS1, hZ1, hk, natNe, List.mem_cons, List.not_mem_nil, TyD.isAgg, Nat.add_assoc, isEmpty_map, List.isEmpty_cons, Bool.false_eq_true, List.map_append, List.map_cons, List.map_nil, List.length_append, List.length_cons, List.length_nil, Nat.zero_add] <;> rfl); all_goals try ((with_reducible intro hI); try first | (cases hI; done) | (simp only [INTS, not_true_eq_false] at hI; try first | (exfalso; omega) | (have hT : True := hI; clear hT hI))))
      | (apply W.append cx_ok; decide; rfl; rfl; rfl; decide; (iterate 3 (simp (disch := (first | omega | (simp only [List.length_append, List.length_map, List.length_cons, List.length_nil, List.length_take, List.length_drop, List.length_nil]; omega))) only [push_cast, simprocAttr, takeM, dropM, List.take_length, List.length_take, List.length_drop, List.all_append, List.all_cons, List.all_nil, Bool.and_true, Bool.and_self, and_self, and_true, true_and, leT, List.take_of_length_le, pureL, pureA, hS1, hZ1, hk, natNe, List.mem_cons, List.not_mem_nil, TyD.isAgg, Nat.add_assoc, isEmpty_map, List.isEmpty_cons, Bool.false_eq_true, List.map_append, List.map_cons, List.map_nil, List.length_append, List.length_cons, List.length_nil, Nat.zero_add] <;> rfl)); (first | (focus (simp; done)) | (intro c hc; obtain ⟨x, _, rfl⟩ := List.mem_map.1 hc; rfl)); ((first | rfl | simp (disch := omega) only [push_cast])); ((try dsimp only); (try simp only [List.length_map, List.length_append, List.length_cons, List.length_nil, List.length_take, List.length_drop, List.length_nil]); omega); ((try dsimp only); (try simp only [List.length_map, List.length_append, List.length_cons, List.length_nil, List.length_take, List.length_drop, List.length_nil]); omega))
      | ((first | apply W.ret1 | apply W.end1); (iterate 2 (try (simp (disch := (first | omega | (simp only [List.length_append, List.length_map, List.length_cons, List.length_nil, List.length_take, List.length_drop, List.length_nil]; omega))) only [push_cast, simprocAttr, takeM, dropM, List.take_length, List.length_take, List.length_drop, List.all_append, List.all_cons, List.all_nil, Bool.and_true, Bool.and_self, and_self, and_true, true_and, leT, List.take_of_length_le, pureL, pureA, hS1, hZ1, hk, natNe, List.mem_cons, List.not_mem_nil, TyD.isAgg, Nat.add_assoc, isEmpty_map, List.isEmpty_cons, Bool.false_eq_true, List.map_append, List.map_cons, List.map_nil, List.length_append, List.length_cons, List.length_nil, Nat.zero_add] <;> rfl))))

    all_goals (show _ = _; rfl)
  obtain ⟨hk, hg, hd', hl', hm', hx⟩ := drop_cons hp01 eSpan []
  have hxi := hmi x hm'
  by_cases hz : O1 = []
  · subst hz
    repeat' first
      | apply AW.seq | apply AW.region | apply AW.ret | apply AW.block | apply AW.skip | apply AW.exit | apply AW.scope | apply AW.label | apply AWL.nil | apply D.nil
      | refine W.draw cx_mixed (by decide +kernel) ?_
      | ((first | (apply W.step cx_ok; decide) | (apply D.step cx_ok; decide; decide) | apply W.store cx_ok | (apply W.gS; rfl; decide) | (apply D.gS; rfl; decide; decide) | apply AW.cond); (simp (disch := (first | omega | (simp only [List.length_append, List.length_map, List.length_cons, List.length_nil, List.length_take, List.length_drop, List.length_nil]; omega))) only [push_cast, simprocAttr, takeM, dropM, List.take_length, List.length_take, List.length_drop, List.all_append, List.all_cons, List.all_nil, Bool.and_true, Bool.and_self, and_self, and_true, true_and, leT, List.take_of_length_le, pureL, pureA, hS1, hZ1, hk, hg, hx, Int.lt_irrefl, natNe, List.mem_cons, List.not_mem_nil, TyD.isAgg, Nat.add_assoc, isEmpty_map, List.isEmpty_cons, Bool.false_eq_true, List.map_append, List.map_cons, List.map_nil, List.length_append, List.length_cons, List.length_nil, Nat.zero_add, Bool.true_and, Bool.false_and, Bool.and_false, Bool.not_true, Bool.not_false] <;> rfl); all_goals try ((with_reducible intro hI); try first | (cases hI; done) | (simp only [INTS, not_true_eq_false] at hI; try first | (exfalso; omega) | (have hT : True := hI; clear hT hI))))
      | (apply W.append cx_ok; decide; rfl; rfl; rfl; decide; (iterate 3 (simp (disch := (first | omega | (simp only [List.length_append, List.length_map, List.length_cons, List.length_nil, List.length_take, List.length_drop, List.length_nil]; omega))) only [push_cast, simprocAttr, takeM, dropM, List.take_length, List.length_take, List.length_drop, List.all_append, List.all_cons, List.all_nil, Bool.and_true, Bool.and_self, and_self, and_true, true_and, leT, List.take_of_length_le, pureL, pureA, hS1, hZ1, hk, hg, hx, Int.lt_irrefl, natNe, List.mem_cons, List.not_mem_nil, TyD.isAgg, Nat.add_assoc, isEmpty_map, List.isEmpty_cons, Bool.false_eq_true, List.map_append, List.map_cons, List.map_nil, List.length_append, List.length_cons, List.length_nil, Nat.zero_add, Bool.true_and, Bool.false_and, Bool.and_false, Bool.not_true, Bool.not_false] <;> rfl)); (first | (focus (simp; done)) | (intro c hc; obtain ⟨x, _, rfl⟩ := List.mem_map.1 hc; rfl)); ((first | rfl | simp (disch := omega) only [push_cast])); ((try dsimp only); (try simp only [List.length_map, List.length_append, List.length_cons, List.length_nil, List.length_take, List.length_drop, List.length_nil]); omega); ((try dsimp only); (try simp only [List.length_map, List.length_append, List.length_cons, List.length_nil, List.length_take, List.length_drop, List.length_nil]); omega))
      | ((first | apply W.ret1 | apply W.end1); (iterate 2 (try (simp (disch := (first | omega | (simp only [List.length_append, List.length_map, List.length_cons, List.length_nil, List.length_take, List.length_drop, List.length_nil]; omega))) only [push_cast, simprocAttr, takeM, dropM, List.take_length, List.length_take, List.length_drop, List.all_append, List.all_cons, List.all_nil, Bool.and_true, Bool.and_self, and_self, and_true, true_and, leT, List.take_of_length_le, pureL, pureA, hS1, hZ1, hk, hg, hx, Int.lt_irrefl, natNe, List.mem_cons, List.not_mem_nil, TyD.isAgg, Nat.add_assoc, isEmpty_map, List.isEmpty_cons, Bool.false_eq_true, List.map_append, List.map_cons, List.map_nil, List.length_append, List.length_cons, List.length_nil, Nat.zero_add, Bool.true_and, Bool.false_and, Bool.and_false, Bool.not_true, Bool.not_false] <;> rfl))))

    all_goals (refine ⟨rest1.length, ?_, k1 + 1, [x], rest1, rfl, hd', (by rw [jo_first]; exact hp11), (by simp), (by omega), (fun s h => by simp at h; subst h; omega), ?_, ?_, ?_, ?_, ?_, ?_⟩; ((simp only [List.length_cons] at *; omega)); all_goals first | (simp (disch := omega) only [push_cast, simprocAttr, hS1, hZ1, hk, hg, hx, natNe, List.mem_cons, List.not_mem_nil, TyD.isAgg, Nat.add_assoc, isEmpty_map, List.isEmpty_cons, Bool.false_eq_true, List.map_append, List.map_cons, List.map_nil, List.length_append, List.length_cons, List.length_nil, Nat.zero_add] <;> first | rfl | omega) | omega)
  have hpos : 0 < O1.length := List.length_pos_iff.2 hz
  obtain ⟨c, hc⟩ : ∃ c, O1[O1.length - 1]? = some c := ⟨_, List.getElem?_eq_getElem (by omega)⟩
  have hcd : O1.getD (O1.length - 1) default = c := by rw [List.getD_eq_getElem?_getD, hc]; rfl
  have hci := hp41 c (List.mem_of_getElem? hc)
  have gx : (O1.map eSpan)[O1.length - 1]? = some (eSpan c) := by rw [List.getElem?_map, hc]; rfl
  have gd : (O1.map eSpan).getD (O1.length - 1) [] = eSpan c := by rw [List.getD_eq_getElem?_getD, gx]; rfl
  have z0 : (0 : Int) < (O1.length : Int) := by omega
  have z1 : (0 : Int) ≤ (O1.length : Int) - 1 := by omega
  have z2 : (O1.length : Int) - 1 < (O1.length : Int) := by omega
  have z3 : ((O1.length : Int) - 1).toNat = O1.length - 1 := by omega
  have z4 : O1.length - 1 < O1.length := by omega
  by_cases hq : x.lo ≤ c.hi + 1
  · have hset : (O1.map eSpan).set (O1.length - 1) [ai c.lo, ai (max c.hi x.hi)] = (O1.set (O1.length - 1) ⟨c.lo, max c.hi x.hi⟩).map eSpan := by rw [List.map_set]
    have hj := jo_grow (rest := rest1) hz (by rw [hcd]; exact hq)
    rw [hcd, hp11] at hj
    have hin : ∀ s ∈ O1.set (O1.length - 1) ⟨c.lo, max c.hi x.hi⟩, 0 ≤ s.lo ∧ s.lo ≤ s.hi ∧ s.hi ≤ 43199 := fun s h => by
      rcases List.mem_or_eq_of_mem_set h with h | rfl
      · exact hp41 s h
      · dsimp only; omega
    obtain ⟨SM, hSM⟩ : ∃ z, O1.set (O1.length - 1) ⟨c.lo, max c.hi x.hi⟩ = z := ⟨_, rfl⟩
    have hsl : SM.length = O1.length := by rw [← hSM, List.length_set]
    rw [hSM] at hset hj hin
    repeat' first
      | apply AW.seq | apply AW.region | apply AW.ret | apply AW.block | apply AW.skip | apply AW.exit | apply AW.scope | apply AW.label | apply AWL.nil | apply D.nil
      | refine AW.draw (id := 8) cx_mixed [14] [] [0] 0 (by decide +kernel) ?_
      | refine W.draw cx_mixed (by decide +kernel) ?_
      | ((first | (apply W.step cx_ok; decide) | (apply D.step cx_ok; decide; decide) | apply W.store cx_ok | (apply W.gS; rfl; decide) | (apply D.gS; rfl; decide; decide) | apply AW.cond); (simp (disch := (first | omega | (simp only [List.length_append, List.length_map, List.length_cons, List.length_nil, List.length_take, List.length_drop, List.length_nil]; omega))) only [push_cast, simprocAttr, takeM, dropM, List.take_length, List.length_take, List.length_drop, List.all_append, List.all_cons, List.all_nil, Bool.and_true, Bool.and_self, and_self, and_true, true_and, leT, List.take_of_length_le, pureL, pureA, hS1, hZ1, hk, hg, hx, hq, hset, hsl, z0, z1, z2, z3, z4, gx, gd, natNe, List.mem_cons, List.not_mem_nil, TyD.isAgg, Nat.add_assoc, isEmpty_map, List.isEmpty_cons, Bool.false_eq_true, List.map_append, List.map_cons, List.map_nil, List.length_append, List.length_cons, List.length_nil, Nat.zero_add, Bool.true_and, Bool.false_and, Bool.and_false, Bool.not_true, Bool.not_false] <;> rfl); all_goals try ((with_reducible intro hI); try first | (cases hI; done) | (simp only [INTS, not_true_eq_false] at hI; try first | (exfalso; omega) | (have hT : True := hI; clear hT hI))))
      | ((first | (apply D.store cx_ok; decide) | (apply D.stept cx_ok; decide; decide) | (apply D.stepm cx_ok; decide; decide)); (simp (disch := (first | omega | (simp only [List.length_append, List.length_map, List.length_cons, List.length_nil, List.length_take, List.length_drop, List.length_nil]; omega))) only [push_cast, simprocAttr, takeM, dropM, List.take_length, List.length_take, List.length_drop, List.all_append, List.all_cons, List.all_nil, Bool.and_true, Bool.and_self, and_self, and_true, true_and, leT, List.take_of_length_le, pureL, pureA, hS1, hZ1, hk, hg, hx, hq, hset, hsl, z0, z1, z2, z3, z4, gx, gd, natNe, List.mem_cons, List.not_mem_nil, TyD.isAgg, Nat.add_assoc, isEmpty_map, List.isEmpty_cons, Bool.false_eq_true, List.map_append, List.map_cons, List.map_nil, List.length_append, List.length_cons, List.length_nil, Nat.zero_add, Bool.true_and, Bool.false_and, Bool.and_false, Bool.not_true, Bool.not_false] <;> rfl); try first | exact .inl rfl | exact .inr (by simp))
      | ((apply D.alloct cx_ok; decide; decide); (simp (disch := (first | omega | (simp only [List.length_append, List.length_map, List.length_cons, List.length_nil, List.length_take, List.length_drop, List.length_nil]; omega))) only [push_cast, simprocAttr, takeM, dropM, List.take_length, List.length_take, List.length_drop, List.all_append, List.all_cons, List.all_nil, Bool.and_true, Bool.and_self, and_self, and_true, true_and, leT, List.take_of_length_le, pureL, pureA, hS1, hZ1, hk, hg, hx, hq, hset, hsl, z0, z1, z2, z3, z4, gx, gd, natNe, List.mem_cons, List.not_mem_nil, TyD.isAgg, Nat.add_assoc, isEmpty_map, List.isEmpty_cons, Bool.false_eq_true, List.map_append, List.map_cons, List.map_nil, List.length_append, List.length_cons, List.length_nil, Nat.zero_add, Bool.true_and, Bool.false_and, Bool.and_false, Bool.not_true, Bool.not_false] <;> rfl); first | exact .inl rfl | exact .inr (by simp))
      | (apply W.append cx_ok; decide; rfl; rfl; rfl; decide; (iterate 3 (simp (disch := (first | omega | (simp only [List.length_append, List.length_map, List.length_cons, List.length_nil, List.length_take, List.length_drop, List.length_nil]; omega))) only [push_cast, simprocAttr, takeM, dropM, List.take_length, List.length_take, List.length_drop, List.all_append, List.all_cons, List.all_nil, Bool.and_true, Bool.and_self, and_self, and_true, true_and, leT, List.take_of_length_le, pureL, pureA, hS1, hZ1, hk, hg, hx, hq, hset, hsl, z0, z1, z2, z3, z4, gx, gd, natNe, List.mem_cons, List.not_mem_nil, TyD.isAgg, Nat.add_assoc, isEmpty_map, List.isEmpty_cons, Bool.false_eq_true, List.map_append, List.map_cons, List.map_nil, List.length_append, List.length_cons, List.length_nil, Nat.zero_add, Bool.true_and, Bool.false_and, Bool.and_false, Bool.not_true, Bool.not_false] <;> rfl)); (first | (focus (simp; done)) | (intro c hc; obtain ⟨x, _, rfl⟩ := List.mem_map.1 hc; rfl)); ((first | rfl | simp (disch := omega) only [push_cast])); ((try dsimp only); (try simp only [List.length_map, List.length_append, List.length_cons, List.length_nil, List.length_take, List.length_drop, List.length_nil]); omega); ((try dsimp only); (try simp only [List.length_map, List.length_append, List.length_cons, List.length_nil, List.length_take, List.length_drop, List.length_nil]); omega))
      | ((first | apply W.ret1 | apply W.end1); (iterate 2 (try (simp (disch := (first | omega | (simp only [List.length_append, List.length_map, List.length_cons, List.length_nil, List.length_take, List.length_drop, List.length_nil]; omega))) only [push_cast, simprocAttr, takeM, dropM, List.take_length, List.length_take, List.length_drop, List.all_append, List.all_cons, List.all_nil, Bool.and_true, Bool.and_self, and_self, and_true, true_and, leT, List.take_of_length_le, pureL, pureA, hS1, hZ1, hk, hg, hx, hq, hset, hsl, z0, z1, z2, z3, z4, gx, gd, natNe, List.mem_cons, List.not_mem_nil, TyD.isAgg, Nat.add_assoc, isEmpty_map, List.isEmpty_cons, Bool.false_eq_true, List.map_append, List.map_cons, List.map_nil, List.length_append, List.length_cons, List.length_nil, Nat.zero_add, Bool.true_and, Bool.false_and, Bool.and_false, Bool.not_true, Bool.not_false] <;> rfl))))

    all_goals (refine ⟨rest1.length, ?_, k1 + 1, SM, rest1, rfl, hd', hj, (by omega), (by omega), hin, ?_, ?_, ?_, ?_, ?_, ?_⟩; ((simp only [List.length_cons] at *; omega)); all_goals first | (simp (disch := omega) only [push_cast, simprocAttr, hS1, hZ1, hk, hg, hx, hset, hsl, z0, z1, z2, z3, z4, gx, gd, natNe, List.mem_cons, List.not_mem_nil, TyD.isAgg, Nat.add_assoc, isEmpty_map, List.isEmpty_cons, Bool.false_eq_true, List.map_append, List.map_cons, List.map_nil, List.length_append, List.length_cons, List.length_nil, Nat.zero_add] <;> first | rfl | omega) | omega)
  · have hj := jo_push (rest := rest1) hz (by rw [hcd]; exact hq)
    rw [hp11] at hj
    repeat' first
      | apply AW.seq | apply AW.region | apply AW.ret | apply AW.block | apply AW.skip | apply AW.exit | apply AW.scope | apply AW.label | apply AWL.nil | apply D.nil
      | refine W.draw cx_mixed (by decide +kernel) ?_
      | ((first | (apply W.step cx_ok; decide) | (apply D.step cx_ok; decide; decide) | apply W.store cx_ok | (apply W.gS; rfl; decide) | (apply D.gS; rfl; decide; decide) | apply AW.cond); (simp (disch := (first | omega | (simp only [List.length_append, List.length_map, List.length_cons, List.length_nil, List.length_take, List.length_drop, List.length_nil]; omega))) only [push_cast, simprocAttr, takeM, dropM, List.take_length, List.length_take, List.length_drop, List.all_append, List.all_cons, List.all_nil, Bool.and_true, Bool.and_self, and_self, and_true, true_and, leT, List.take_of_length_le, pureL, pureA, hS1, hZ1, hk, hg, hx, hq, z0, z1, z2, z3, z4, gx, gd, natNe, List.mem_cons, List.not_mem_nil, TyD.isAgg, Nat.add_assoc, isEmpty_map, List.isEmpty_cons, Bool.false_eq_true, List.map_append, List.map_cons, List.map_nil, List.length_append, List.length_cons, List.length_nil, Nat.zero_add, Bool.true_and, Bool.false_and, Bool.and_false, Bool.not_true, Bool.not_false] <;> rfl); all_goals try ((with_reducible intro hI); try first | (cases hI; done) | (simp only [INTS, not_true_eq_false] at hI; try first | (exfalso; omega) | (have hT : True := hI; clear hT hI))))
      | (apply W.append cx_ok; decide; rfl; rfl; rfl; decide; (iterate 3 (simp (disch := (first | omega | (simp only [List.length_append, List.length_map, List.length_cons, List.length_nil, List.length_take, List.length_drop, List.length_nil]; omega))) only [push_cast, simprocAttr, takeM, dropM, List.take_length, List.length_take, List.length_drop, List.all_append, List.all_cons, List.all_nil, Bool.and_true, Bool.and_self, and_self, and_true, true_and, leT, List.take_of_length_le, pureL, pureA, hS1, hZ1, hk, hg, hx, hq, z0, z1, z2, z3, z4, gx, gd, natNe, List.mem_cons, List.not_mem_nil, TyD.isAgg, Nat.add_assoc, isEmpty_map, List.isEmpty_cons, Bool.false_eq_true, List.map_append, List.map_cons, List.map_nil, List.length_append, List.length_cons, List.length_nil, Nat.zero_add, Bool.true_and, Bool.false_and, Bool.and_false, Bool.not_true, Bool.not_false] <;> rfl)); (first | (focus (simp; done)) | (intro c hc; obtain ⟨x, _, rfl⟩ := List.mem_map.1 hc; rfl)); ((first | rfl | simp (disch := omega) only [push_cast])); ((try dsimp only); (try simp only [List.length_map, List.length_append, List.length_cons, List.length_nil, List.length_take, List.length_drop, List.length_nil]); omega); ((try dsimp only); (try simp only [List.length_map, List.length_append, List.length_cons, List.length_nil, List.length_take, List.length_drop, List.length_nil]); omega))
      | ((first | apply W.ret1 | apply W.end1); (iterate 2 (try (simp (disch := (first | omega | (simp only [List.length_append, List.length_map, List.length_cons, List.length_nil, List.length_take, List.length_drop, List.length_nil]; omega))) only [push_cast, simprocAttr, takeM, dropM, List.take_length, List.length_take, List.length_drop, List.all_append, List.all_cons, List.all_nil, Bool.and_true, Bool.and_self, and_self, and_true, true_and, leT, List.take_of_length_le, pureL, pureA, hS1, hZ1, hk, hg, hx, hq, z0, z1, z2, z3, z4, gx, gd, natNe, List.mem_cons, List.not_mem_nil, TyD.isAgg, Nat.add_assoc, isEmpty_map, List.isEmpty_cons, Bool.false_eq_true, List.map_append, List.map_cons, List.map_nil, List.length_append, List.length_cons, List.length_nil, Nat.zero_add, Bool.true_and, Bool.false_and, Bool.and_false, Bool.not_true, Bool.not_false] <;> rfl))))

    all_goals (refine ⟨rest1.length, ?_, k1 + 1, (O1 ++ [x]), rest1, rfl, hd', hj, (by rw [List.length_append, List.length_singleton]; omega), (by omega), (fun s h => (List.mem_append.1 h).elim (hp41 s) (fun h => by simp at h; subst h; omega)), ?_, ?_, ?_, ?_, ?_, ?_⟩; ((simp only [List.length_cons] at *; omega)); all_goals first | (simp (disch := omega) only [push_cast, simprocAttr, hS1, hZ1, hk, hg, hx, z0, z1, z2, z3, z4, gx, gd, natNe, List.mem_cons, List.not_mem_nil, TyD.isAgg, Nat.add_assoc, isEmpty_map, List.isEmpty_cons, Bool.false_eq_true, List.map_append, List.map_cons, List.map_nil, List.length_append, List.length_cons, List.length_nil, Nat.zero_add] <;> first | rfl | omega) | omega)
end Go.Proofs.Dz

namespace Go.Pg
open Go Go.RowKit Go.Sort
def SortKC (P : Program) (f g : FuncId) {α : Type} [Inhabited α] (enc : α → List Value) (k : Nat) (le : α → α → Prop) : Prop :=
  ∀ (blk cap : Nat) (zs : List α) (w : World), HoldsK enc k w blk 0 zs.toArray → blk < w.heap.size → zs.length < 4611686018427387904 →
    Calls P f #[.slice (some ⟨blk, 0, none⟩) zs.length cap, .func (.func g) #[] #[]] w fun e w' => e = .returned (.tuple #[]) ∧ ∃ ds : List α, ∃ n os, ds.Perm zs ∧ ds.Pairwise le ∧ w' = grow (putRowK enc k (Sort.ahead w n) blk 0 ds.toArray) os
section
variable {α : Type} [Inhabited α] {enc : α → List Value} {k : Nat}
variable {B0 : Nat} {S0 : Fr} {w : World} {H : Nat → Option AO} {σ : Sg} {id b lo : Nat} {ty : TypeId} {l : List α}
abbrev rowK (enc : α → List Value) (k : Nat) (ty : TypeId) (lo : Nat) (l : List α) : Row := { k := k, es := l.map fun x => (enc x).map AV.v, ty := ty, lo := lo }
theorem arrK_get (l : List α) (i : Nat) (h : i < l.length) : l.toArray[i]! = l[i] := by
  rw [getElem!_pos _ i (by simpa using h)]; simp
theorem list_get! {l : List Value} {j : Nat} (h : j < l.length) : l[j]! = l[j] := getElem!_pos l j h
theorem Inv.holdsK (hi : Inv B0 S0 w H σ) (hk : ∀ x, (enc x).length = k) (h : rowAt H id = some (rowK enc k ty lo l)) (hcur : σ.cur id = some b) : HoldsK enc k w b 0 l.toArray := by
  have hR := hi.row id _ (rowAt_eq h)
  obtain ⟨a1, a2, a3, a4, arr, a5, a6⟩ := hR.cur b hcur
  intro t ht
  rw [size_flatK] at ht
  have ht' : t < l.length * k := by simpa using ht
  have hkp : 0 < k := by
    rcases Nat.eq_zero_or_pos k with h0 | h0
    · subst h0; simp at ht'
    · exact h0
  have hi1 : t / k < l.length := Nat.div_lt_of_lt_mul (by rw [Nat.mul_comm]; exact ht')
  have hi2 : t % k < k := Nat.mod_lt _ hkp
  rw [get_flatK _ _ _ _ ht, arrK_get l _ hi1]
  refine ⟨?_, by simp [World.frozen?, a5]⟩
  have hcon := hR.con b hcur (t / k) (by simpa using hi1)
  rw [repL_iff] at hcon
  obtain ⟨u, hu, hru⟩ := hcon (t % k) (by simp [hk]; exact hi2)
  simp only [List.getElem_map, Rep] at hru
  subst hru
  rw [Nat.div_add_mod'] at hu
  rw [Nat.zero_add, hu, list_get! (by rw [hk]; exact hi2)]
  rfl
theorem Inv.putK (hi : Inv B0 S0 w H σ) (hk : ∀ x, (enc x).length = k) (hone : ∀ x, ∀ v ∈ enc x, v.oneCell' = true) (h : rowAt H id = some (rowK enc k ty lo l)) (hcur : σ.cur id = some b) {d : List α} (hsl : d.length = l.length) (n : Nat) (os : Array Obj) :
    Le σ (σ.renew b id l.length (σ.cap b)) w (grow (putRowK enc k (Sort.ahead w n) b 0 d.toArray) os) ∧
    Inv B0 S0 (grow (putRowK enc k (Sort.ahead w n) b 0 d.toArray) os) (updH H id (.row (rowK enc k ty lo d))) (σ.renew b id l.length (σ.cap b)) ∧
    Below B0 w (grow (putRowK enc k (Sort.ahead w n) b 0 d.toArray) os) := by
  have hH := rowAt_eq h
  have hR := hi.row id _ hH
  obtain ⟨a1, a2, a3, a4, arr, a5, a6⟩ := hR.cur b hcur
  have hlt := (hi.own_lt b id a1).2
  have hB := (hi.own_lt b id a1).1
  have hoth : ∀ j, j < w.heap.size → j ≠ b → (grow (putRowK enc k (Sort.ahead w n) b 0 d.toArray) os).heap[j]? = w.heap[j]? := by
    intro j hj hne
    simp only [grow, putRowK, putRow, mapBlock, Sort.ahead]
    rw [Array.getElem?_append_left (by simpa using hj), Array.getElem?_modify, if_neg (fun e => hne e.symm)]
  have hsame : (grow (putRowK enc k (Sort.ahead w n) b 0 d.toArray) os).heap[b]? = some (.cells (putCells _root_.id 0 (flatK enc k d.toArray) arr) ty (0, 0)) := by
    simp only [grow, putRowK, putRow, mapBlock, Sort.ahead]
    rw [Array.getElem?_append_left (by simpa using hlt), Array.getElem?_modify, if_pos rfl, a5]
    rfl
  have hsize : w.heap.size ≤ (grow (putRowK enc k (Sort.ahead w n) b 0 d.toArray) os).heap.size := by simp [grow, putRowK, putRow, mapBlock, Sort.ahead]
  have hq := hi.renew (r' := rowK enc k ty lo d) (w' := grow (putRowK enc k (Sort.ahead w n) b 0 d.toArray) os) hH rfl rfl rfl (.inl hcur) hsame hsize
    (fun j hj _ hne => hoth j hj hne) (.inr ⟨by simp [rowK, hsl], rfl, hcur, rfl⟩) (by simpa [rowK, hsl] using a3) a4 (by simpa [putCells] using a6)
    (fun e he => by
      obtain ⟨x, _, rfl⟩ := List.mem_map.1 he
      refine ⟨by simp [hk, rowK], fun c hc => ?_⟩
      obtain ⟨v, hv, rfl⟩ := List.mem_map.1 hc
      exact hone x v hv)
    (fun i hi' => by
      have hi2 : i < d.length := by simpa [rowK] using hi'
      have e1 : arr.size = σ.cap b * k := a6
      have e2 : l.length ≤ σ.cap b := by simpa [rowK] using a3
      rw [repL_iff]
      intro j hj
      have hj2 : j < k := by simpa [rowK, hk] using hj
      have hkp : 0 < k := by omega
      have hm : i * k + j < d.length * k := by
        have := Nat.mul_le_mul_right k (show i + 1 ≤ d.length from hi2)
        rw [Nat.add_mul, Nat.one_mul] at this; omega
      have hm2 : i * k + j < arr.size := by
        have := Nat.mul_le_mul_right k (show d.length ≤ σ.cap b by omega)
        omega
      have q1 : (i * k + j) / k = i := by
        rw [Nat.mul_comm, Nat.mul_add_div hkp, Nat.div_eq_of_lt hj2, Nat.add_zero]
      have q2 : (i * k + j) % k = j := by
        rw [Nat.mul_comm, Nat.mul_add_mod, Nat.mod_eq_of_lt hj2]
      refine ⟨(enc d[i])[j]'(by rw [hk]; exact hj2), ?_, ?_⟩
      · simp only [putCells, Array.getElem?_mapIdx]
        rw [Array.getElem?_eq_getElem hm2]
        simp only [Option.map_some, Option.some.injEq]
        rw [if_pos ⟨Nat.zero_le _, by rw [size_flatK, Nat.zero_add]; simpa using hm⟩, Nat.sub_zero, get_flatK _ _ _ _ (by simpa using hm), q1, q2, arrK_get d i hi2, list_get! (by rw [hk]; exact hj2)]
        rfl
      · simp [rowK, Rep])
  rw [show (rowK enc k ty lo d : Row).es.length = l.length by simp [rowK, hsl]] at hq
  exact ⟨hq.1, hq.2, rfl, rfl, rfl, hsize, fun j hj => hoth j (by omega) (by omega)⟩
theorem OKm.sortK {C : Cx} {f g : FuncId} {le : α → α → Prop} (hent : Enters C.P f) (hc : SortKC C.P f g enc k le) (hk : ∀ x, (enc x).length = k) (hone : ∀ x, ∀ v ∈ enc x, v.oneCell' = true) (hl : l ≠ []) (hmax : l.length < 4611686018427387904) {nx : Nat}
    (h : rowAt H id = some (rowK enc k ty lo l)) :
    OKm C f [.ref id 0 l.length, .clo g []] H nx (fun v H' nx' => v = .tup [] ∧ nx' = nx ∧ ∃ m : List α, m.Perm l ∧ m.Pairwise le ∧ H' = updH H id (.row (rowK enc k ty lo m))) := by
  refine ⟨hent, fun S0 w0 w σ vals hE hi hnx hb hs hr => ?_⟩
  have hR := hi.row id _ (rowAt_eq h)
  simp only [RepL] at hr
  obtain ⟨⟨u, hu, hru⟩, ⟨u2, hu2, hru2⟩, _⟩ := hr
  simp only [Rep] at hru hru2
  obtain ⟨hal, A, cap, rfl, h1, h2, h3, h4⟩ := hru
  obtain ⟨ca, rfl, hca, _⟩ := hru2
  have hce : ca = #[] := by simpa using hca
  subst hce
  have hpos : l.length ≠ 0 := fun e => hl (List.eq_nil_of_length_eq_zero e)
  obtain ⟨b, hcur, rfl, rfl⟩ := (h4 trivial (by rw [hR.len]; simp [rowK])).resolve_left (fun hh => hpos hh.2.1)
  have hlt := (hi.own_lt b id (hR.cur b hcur).1).2
  have hvals : vals = #[.slice (some ⟨b, 0, none⟩) l.length (σ.cap b), .func (.func g) #[] #[]] := by
    apply Array.ext
    · simpa using hs
    · intro i hi1 hi2
      simp at hi2
      rcases (show i = 0 ∨ i = 1 by omega) with rfl | rfl
      · rw [Array.getElem?_eq_getElem hi1] at hu
        injection hu
      · have hu2' : vals[1]? = _ := hu2
        rw [Array.getElem?_eq_getElem hi1] at hu2'
        injection hu2'
  subst hvals
  refine (hc b (σ.cap b) l w (hi.holdsK hk h hcur) hlt hmax).mono ?_
  rintro e w' ⟨rfl, ds, n, os, hp, hpw, rfl⟩
  obtain ⟨hle, hinv, hbel⟩ := hi.putK hk hone h hcur hp.length_eq n os
  exact ⟨_, .tup [], _, _, nx, rfl, ⟨rfl, rfl, ds, hp, hpw, rfl⟩, hb.trans hbel, hinv, updH_nx hnx (by rw [rowAt_eq h]; simp), hle, by simp [Rep, RepL]⟩
def SortKC0 (P : Program) (f : FuncId) : Prop := ∀ (p : Option Addr) (cap : Nat) (fv : Value) (w : World), Calls P f #[.slice p 0 cap, fv] w fun e w' => e = .returned (.tuple #[]) ∧ w' = w
theorem OKm.sortK0 {C : Cx} {f g : FuncId} (hent : Enters C.P f) (hc : SortKC0 C.P f) {x : AV} (hx : x = .v (.slice none 0 0) ∨ ∃ id, x = .ref id 0 0) {H : Nat → Option AO} {nx : Nat} :
    OKm C f [x, .clo g []] H nx (fun v H' nx' => v = .tup [] ∧ H' = H ∧ nx' = nx) := by
  refine ⟨hent, fun S0 w0 w σ vals hE hi hnx hb hs hr => ?_⟩
  simp only [RepL] at hr
  obtain ⟨⟨u, hu, hru⟩, ⟨u2, hu2, hru2⟩, _⟩ := hr
  have h1 : ∃ A cap, u = .slice A 0 cap := by
    rcases hx with rfl | ⟨id, rfl⟩
    · simp only [Rep] at hru; exact ⟨none, 0, hru⟩
    · simp only [Rep] at hru
      obtain ⟨_, A, cap, h, _⟩ := hru
      exact ⟨A, cap, h⟩
  obtain ⟨A, cap, rfl⟩ := h1
  have hv : vals = #[.slice A 0 cap, u2] := by
    apply Array.ext
    · simpa using hs
    · intro i hi1 hi2
      simp at hi2
      rcases (show i = 0 ∨ i = 1 by omega) with rfl | rfl
      · rw [Array.getElem?_eq_getElem hi1] at hu
        injection hu
      · have hu2' : vals[1]? = _ := hu2
        rw [Array.getElem?_eq_getElem hi1] at hu2'
        injection hu2'
  subst hv
  refine (hc A cap u2 w).mono ?_
  rintro e w' ⟨rfl, rfl⟩
  exact ⟨_, .tup [], σ, H, nx, rfl, ⟨rfl, rfl, rfl⟩, hb, hi, hnx, Le.refl σ _ (fun b id h => hi.al_of_own h), by simp [Rep, RepL]⟩
end
end Go.Pg
