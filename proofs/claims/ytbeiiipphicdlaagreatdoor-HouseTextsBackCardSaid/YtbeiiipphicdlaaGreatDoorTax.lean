/-
  Contracts of functions, proved by going through their code. No conditions.
-/
import Derived.Test.YtbeiiipphicdlaaGreatDoorTaw
set_option linter.unusedVariables false
set_option linter.unusedSimpArgs false
set_option maxHeartbeats 8000000
set_option maxRecDepth 10000
namespace Go.Proofs.Hz
open Go Go.Pg Go.Proofs Go.Tx
attribute [local push_cast] Bool.and_false Bool.and_self Bool.and_true Bool.false_and Bool.false_eq_true Bool.not_false Bool.not_true Bool.true_and List.all_append List.all_cons List.all_nil List.append_nil List.cons_append List.isEmpty_cons List.length_append List.length_cons List.length_drop List.length_nil List.length_take List.map_append List.map_cons List.map_nil List.mem_cons List.nil_append List.not_mem_nil List.take_length List.take_of_length_le Nat.add_assoc Nat.zero_add St.back TyD.isAgg and_self and_true dropM idsA idsL isEmpty_map leT natNe pureA pureL rowAt_aftJ takeM true_and
theorem wordsF_count (c : UInt8) : ∀ l : List UInt8, (wordsF c l).length ≤ l.length + 1
  | [] => by simp [wordsF]
  | x :: l => by
    have ih := wordsF_count c l
    unfold wordsF
    split
    · simp only [List.length_cons]; omega
    · cases h : wordsF c l with
      | nil => simp
      | cons w ws => rw [h] at ih; simp only [List.length_cons] at ih ⊢; omega
theorem wordsB_count (c : UInt8) (s : ByteArray) : (Tx.wordsB c s).length ≤ s.size + 1 := by
  rw [wordsB_eq, List.length_map, ← bl_len]; exact wordsF_count c _
theorem RNumbers_ok (l : List ByteArray) (hl : l.length ≤ 1048576) (hs : ∀ x ∈ l, x.size ≤ 1048576) : OKv cx 62 [.lst (l.map eStr)] (.tup [lInt (numsD l []).1, ab (numsD l []).2]) := by
  obtain ⟨RES, hRES⟩ : ∃ z, numsD l [] = z := ⟨_, rfl⟩
  rw [hRES]
  have hf3 : ∀ x, flatA (.v x) = true := fun _ => rfl
  have hf5 : ∀ x y, flatA (.tup [.v x, .v y]) = true := fun _ _ => rfl
  have hf5b : ∀ x y z, flatA (.tup [.v x, .v y, .v z]) = true := fun _ _ _ => rfl
  have hf6 : ∀ l, flatA (.lst l) = false := fun _ => rfl
  have hf7 : ∀ l x, flatA (.tup [.lst l, .v x]) = false := fun _ _ => rfl
  have hf9 : ∀ H ids x y, afterH H ids (.tup [.v x, .v y]) = H := fun _ _ _ _ => rfl
  refine OKat.of_body (rs := [2, 3]) Tryz.func62 rfl (by decide +kernel) rfl (by simp [Tryz.ntmps62]) ?_
  simp only [Tryz.ntmps62]
  repeat' first
    | apply AW.seq | apply AW.region | apply AW.ret | apply AW.block | apply AW.skip | apply AW.exit | apply AW.scope | apply AW.label | apply AWL.nil
    | ((first | (apply W.step cx_ok; decide) | apply AW.cond); (simp (disch := (first | omega | (simp only [List.length_append, List.length_map, List.length_cons, List.length_nil, List.length_take, List.length_drop]; omega))) only [push_cast, simprocAttr, hf3, hf5, hf5b, hf6, hf7, hf9] <;> rfl); all_goals try ((with_reducible intro hI); try first | (cases hI; done) | (simp only [INTS, not_true_eq_false] at hI; try first | (exfalso; omega) | (have hT : True := hI; clear hT hI))))
    | (apply W.append cx_ok; decide; rfl; rfl; rfl; decide; (iterate 3 (simp (disch := (first | omega | (simp only [List.length_append, List.length_map, List.length_cons, List.length_nil, List.length_take, List.length_drop]; omega))) only [push_cast, simprocAttr, hf3, hf5, hf5b, hf6, hf7, hf9] <;> rfl)); (first | (focus (simp; done)) | (intro c hc; obtain ⟨x, _, rfl⟩ := List.mem_map.1 hc; rfl)); ((first | rfl | simp (disch := omega) only [push_cast])); ((try dsimp only); (try simp only [List.length_map, List.length_append, List.length_cons, List.length_nil, List.length_take, List.length_drop]); omega); ((try dsimp only); (try simp only [List.length_map, List.length_append, List.length_cons, List.length_nil, List.length_take, List.length_drop]); omega))
    | ((first | apply W.ret2 | apply W.end2); (iterate 2 (try (simp (disch := (first | omega | (simp only [List.length_append, List.length_map, List.length_cons, List.length_nil, List.length_take, List.length_drop]; omega))) only [push_cast, simprocAttr, hf3, hf5, hf5b, hf6, hf7, hf9] <;> rfl))))

  refine AW.adopt 4 1 3 ?_ ?_
  · (simp (disch := omega) only [push_cast, simprocAttr, hf3, hf5, hf5b, hf6, hf7, hf9] <;> rfl)
  refine AW.loop (fun n s => ∃ (k : Nat) (O : List Int) (rest : List ByteArray), n = rest.length ∧ (l.drop k = rest) ∧ (numsD rest O = RES) ∧ (O.length ≤ k) ∧ (k ≤ l.length) ∧ 1 ≤ s.nx ∧ s.tm 0 = .lst (l.map eStr) ∧ s.tm 4 = .ref 0 0 O.length ∧ s.tm 5 = ai k ∧ Pg.rowAt s.H (0) = some ({ k := 1, es := O.map eInt, ty := 3, lo := O.length })) (l.length) ⟨0, [], l, rfl, rfl, hRES, (Nat.zero_le _), (Nat.zero_le _), ?_, ?_, ?_, ?_, ?_⟩ ?_
  iterate 5 (first | (simp (disch := omega) only [push_cast, simprocAttr, hf3, hf5, hf5b, hf6, hf7, hf9] <;> first | rfl | omega) | omega)
  rintro n1 s1 ⟨k1, O1, rest1, hn1, hp01, hp11, hp21, hp31, hnl1, hS1⟩
  have hZ1 : (0 : Nat) ≠ s1.nx ∧ s1.nx ≠ (0 : Nat) := by omega
  refine AW.fresh fun hfr1 => ?_
  rcases rest1 with _ | ⟨x, rest1⟩
  rotate_left
  · obtain ⟨hk, hg, hd', hl', hm', hx⟩ := drop_cons hp01 eStr []
    have c4 := RNumber_ok x (hs x hm')
    rw [numsD] at hp11
    obtain ⟨v, b, hv⟩ : ∃ v b, numD x = (v, b) := ⟨_, _, rfl⟩
    rw [hv] at c4 hp11
    cases b with
    | true =>
      rw [if_pos rfl] at hp11
      dsimp only at c4 hp11
      repeat' first
        | apply AW.seq | apply AW.region | apply AW.ret | apply AW.block | apply AW.skip | apply AW.exit | apply AW.scope | apply AW.label | apply AWL.nil
        | ((first | (apply W.step cx_ok; decide) | apply AW.cond); (simp (disch := (first | omega | (simp only [List.length_append, List.length_map, List.length_cons, List.length_nil, List.length_take, List.length_drop, List.length_nil]; omega))) only [push_cast, simprocAttr, hS1, hZ1, hf3, hf5, hf5b, hf6, hf7, hf9, hk, hg, hx, hfr1] <;> rfl); all_goals try ((with_reducible intro hI); try first | (cases hI; done) | (simp only [INTS, not_true_eq_false] at hI; try first | (exfalso; omega) | (have hT : True := hI; clear hT hI))))
        | (apply W.append cx_ok; decide; rfl; rfl; rfl; decide; (iterate 3 (simp (disch := (first | omega | (simp only [List.length_append, List.length_map, List.length_cons, List.length_nil, List.length_take, List.length_drop, List.length_nil]; omega))) only [push_cast, simprocAttr, hS1, hZ1, hf3, hf5, hf5b, hf6, hf7, hf9, hk, hg, hx, hfr1] <;> rfl)); (first | (focus (simp; done)) | (intro c hc; obtain ⟨x, _, rfl⟩ := List.mem_map.1 hc; rfl)); ((first | rfl | simp (disch := omega) only [push_cast])); ((try dsimp only); (try simp only [List.length_map, List.length_append, List.length_cons, List.length_nil, List.length_take, List.length_drop, List.length_nil]); omega); ((try dsimp only); (try simp only [List.length_map, List.length_append, List.length_cons, List.length_nil, List.length_take, List.length_drop, List.length_nil]); omega))
        | ((apply W.callv cx_ok; decide); (iterate 2 (simp (disch := (first | omega | (simp only [List.length_append, List.length_map, List.length_cons, List.length_nil, List.length_take, List.length_drop, List.length_nil]; omega))) only [push_cast, simprocAttr, hS1, hZ1, hf3, hf5, hf5b, hf6, hf7, hf9, hk, hg, hx, hfr1] <;> rfl)); (with_reducible first | exact c4); try first | rfl | (simp (disch := (first | omega | (simp only [List.length_append, List.length_map, List.length_cons, List.length_nil, List.length_take, List.length_drop, List.length_nil]; omega))) only [push_cast, simprocAttr, hS1, hZ1, hf3, hf5, hf5b, hf6, hf7, hf9, hk, hg, hx, hfr1] <;> rfl))
        | ((first | apply W.ret2 | apply W.end2); (iterate 2 (try (simp (disch := (first | omega | (simp only [List.length_append, List.length_map, List.length_cons, List.length_nil, List.length_take, List.length_drop, List.length_nil]; omega))) only [push_cast, simprocAttr, hS1, hZ1, hf3, hf5, hf5b, hf6, hf7, hf9, hk, hg, hx, hfr1] <;> rfl))))

      all_goals (refine ⟨rest1.length, ?_, k1 + 1, (O1 ++ [v]), rest1, rfl, hd', hp11, (by rw [List.length_append, List.length_singleton]; omega), (by omega), ?_, ?_, ?_, ?_, ?_⟩; ((simp only [List.length_cons] at *; omega)); all_goals first | (simp (disch := omega) only [push_cast, simprocAttr, hS1, hZ1, hk, hg, hx, hf3, hf5, hf5b, hf6, hf7, hf9] <;> first | rfl | omega) | omega)
    | false =>
      rw [if_neg Bool.false_ne_true] at hp11
      dsimp only at c4
      subst hp11
      repeat' first
        | apply AW.seq | apply AW.region | apply AW.ret | apply AW.block | apply AW.skip | apply AW.exit | apply AW.scope | apply AW.label | apply AWL.nil
        | ((first | (apply W.step cx_ok; decide) | apply AW.cond); (simp (disch := (first | omega | (simp only [List.length_append, List.length_map, List.length_cons, List.length_nil, List.length_take, List.length_drop, List.length_nil]; omega))) only [push_cast, simprocAttr, hS1, hZ1, hf3, hf5, hf5b, hf6, hf7, hf9, hk, hg, hx, hfr1] <;> rfl); all_goals try ((with_reducible intro hI); try first | (cases hI; done) | (simp only [INTS, not_true_eq_false] at hI; try first | (exfalso; omega) | (have hT : True := hI; clear hT hI))))
        | (apply W.append cx_ok; decide; rfl; rfl; rfl; decide; (iterate 3 (simp (disch := (first | omega | (simp only [List.length_append, List.length_map, List.length_cons, List.length_nil, List.length_take, List.length_drop, List.length_nil]; omega))) only [push_cast, simprocAttr, hS1, hZ1, hf3, hf5, hf5b, hf6, hf7, hf9, hk, hg, hx, hfr1] <;> rfl)); (first | (focus (simp; done)) | (intro c hc; obtain ⟨x, _, rfl⟩ := List.mem_map.1 hc; rfl)); ((first | rfl | simp (disch := omega) only [push_cast])); ((try dsimp only); (try simp only [List.length_map, List.length_append, List.length_cons, List.length_nil, List.length_take, List.length_drop, List.length_nil]); omega); ((try dsimp only); (try simp only [List.length_map, List.length_append, List.length_cons, List.length_nil, List.length_take, List.length_drop, List.length_nil]); omega))
        | ((apply W.callv cx_ok; decide); (iterate 2 (simp (disch := (first | omega | (simp only [List.length_append, List.length_map, List.length_cons, List.length_nil, List.length_take, List.length_drop, List.length_nil]; omega))) only [push_cast, simprocAttr, hS1, hZ1, hf3, hf5, hf5b, hf6, hf7, hf9, hk, hg, hx, hfr1] <;> rfl)); (with_reducible first | exact c4); try first | rfl | (simp (disch := (first | omega | (simp only [List.length_append, List.length_map, List.length_cons, List.length_nil, List.length_take, List.length_drop, List.length_nil]; omega))) only [push_cast, simprocAttr, hS1, hZ1, hf3, hf5, hf5b, hf6, hf7, hf9, hk, hg, hx, hfr1] <;> rfl))
        | ((first | apply W.ret2 | apply W.end2); (iterate 2 (try (simp (disch := (first | omega | (simp only [List.length_append, List.length_map, List.length_cons, List.length_nil, List.length_take, List.length_drop, List.length_nil]; omega))) only [push_cast, simprocAttr, hS1, hZ1, hf3, hf5, hf5b, hf6, hf7, hf9, hk, hg, hx, hfr1] <;> rfl))))

      all_goals (show _ = _; rfl)
  have hk := drop_nil hp01
  have hq : (O1, true) = RES := hp11
  subst hq
  repeat' first
    | apply AW.seq | apply AW.region | apply AW.ret | apply AW.block | apply AW.skip | apply AW.exit | apply AW.scope | apply AW.label | apply AWL.nil
    | ((first | (apply W.step cx_ok; decide) | apply AW.cond); (simp (disch := (first | omega | (simp only [List.length_append, List.length_map, List.length_cons, List.length_nil, List.length_take, List.length_drop, List.length_nil]; omega))) only [push_cast, simprocAttr, hS1, hZ1, hf3, hf5, hf5b, hf6, hf7, hf9, hk] <;> rfl); all_goals try ((with_reducible intro hI); try first | (cases hI; done) | (simp only [INTS, not_true_eq_false] at hI; try first | (exfalso; omega) | (have hT : True := hI; clear hT hI))))
    | (apply W.append cx_ok; decide; rfl; rfl; rfl; decide; (iterate 3 (simp (disch := (first | omega | (simp only [List.length_append, List.length_map, List.length_cons, List.length_nil, List.length_take, List.length_drop, List.length_nil]; omega))) only [push_cast, simprocAttr, hS1, hZ1, hf3, hf5, hf5b, hf6, hf7, hf9, hk] <;> rfl)); (first | (focus (simp; done)) | (intro c hc; obtain ⟨x, _, rfl⟩ := List.mem_map.1 hc; rfl)); ((first | rfl | simp (disch := omega) only [push_cast])); ((try dsimp only); (try simp only [List.length_map, List.length_append, List.length_cons, List.length_nil, List.length_take, List.length_drop, List.length_nil]); omega); ((try dsimp only); (try simp only [List.length_map, List.length_append, List.length_cons, List.length_nil, List.length_take, List.length_drop, List.length_nil]); omega))
    | ((first | apply W.ret2 | apply W.end2); (iterate 2 (try (simp (disch := (first | omega | (simp only [List.length_append, List.length_map, List.length_cons, List.length_nil, List.length_take, List.length_drop, List.length_nil]; omega))) only [push_cast, simprocAttr, hS1, hZ1, hf3, hf5, hf5b, hf6, hf7, hf9, hk] <;> rfl))))

  all_goals (show _ = _; rfl)
end Go.Proofs.Hz

namespace Go.Proofs.Hz
open Go Go.Pg Go.Proofs Go.Tx
attribute [local push_cast] Bool.and_false Bool.and_self Bool.and_true Bool.false_and Bool.false_eq_true Bool.not_false Bool.not_true Bool.true_and List.all_append List.all_cons List.all_nil List.append_nil List.cons_append List.isEmpty_cons List.length_append List.length_cons List.length_drop List.length_nil List.length_take List.map_append List.map_cons List.map_nil List.mem_cons List.nil_append List.not_mem_nil List.take_length List.take_of_length_le Nat.add_assoc Nat.zero_add St.back TyD.isAgg and_self and_true dropM idsA idsL isEmpty_map leT natNe pureA pureL rowAt_aftJ takeM true_and
theorem RHours_ok (l : List ByteArray) (hl : l.length ≤ 1048576) (hs : ∀ x ∈ l, x.size ≤ 1048575) : OKv cx 61 [.lst (l.map eStr)] (.tup [.agg (eDoor (hoursD l false dNone).1), ab (hoursD l false dNone).2]) := by
  obtain ⟨RES, hRES⟩ : ∃ z, hoursD l false dNone = z := ⟨_, rfl⟩
  rw [hRES]
  have hf3 : ∀ x, flatA (.v x) = true := fun _ => rfl
  have hf5 : ∀ x y, flatA (.tup [.v x, .v y]) = true := fun _ _ => rfl
  have hf5b : ∀ x y z, flatA (.tup [.v x, .v y, .v z]) = true := fun _ _ _ => rfl
  have hf6 : ∀ l, flatA (.lst l) = false := fun _ => rfl
  have hf7 : ∀ l x, flatA (.tup [.lst l, .v x]) = false := fun _ _ => rfl
  have hf9 : ∀ H ids x y, afterH H ids (.tup [.v x, .v y]) = H := fun _ _ _ _ => rfl
  refine OKat.of_bodyM cx_ok (rs := [.cell 2 38, .tmp 3]) Tryz.func61 rfl (by decide +kernel) rfl (by simp [Tryz.ntmps61]) ?_
  simp only [Tryz.ntmps61]
  repeat' first
    | apply AW.seq | apply AW.region | apply AW.ret | apply AW.block | apply AW.skip | apply AW.exit | apply AW.scope | apply AW.label | apply AWL.nil | apply D.nil
    | refine W.draw cx_mixed (by decide +kernel) ?_
    | ((first | (apply W.step cx_ok; decide) | (apply D.step cx_ok; decide; decide) | apply W.store cx_ok | (apply W.gS; rfl; decide) | (apply D.gS; rfl; decide; decide) | apply AW.cond); (simp (disch := (first | omega | (simp only [List.length_append, List.length_map, List.length_cons, List.length_nil, List.length_take, List.length_drop]; omega))) only [push_cast, simprocAttr, hf3, hf5, hf5b, hf6, hf7, hf9] <;> rfl); all_goals try ((with_reducible intro hI); try first | (cases hI; done) | (simp only [INTS, not_true_eq_false] at hI; try first | (exfalso; omega) | (have hT : True := hI; clear hT hI))))
    | (apply W.append cx_ok; decide; rfl; rfl; rfl; decide; (iterate 3 (simp (disch := (first | omega | (simp only [List.length_append, List.length_map, List.length_cons, List.length_nil, List.length_take, List.length_drop]; omega))) only [push_cast, simprocAttr, hf3, hf5, hf5b, hf6, hf7, hf9] <;> rfl)); (first | (focus (simp; done)) | (intro c hc; obtain ⟨x, _, rfl⟩ := List.mem_map.1 hc; rfl)); ((first | rfl | simp (disch := omega) only [push_cast])); ((try dsimp only); (try simp only [List.length_map, List.length_append, List.length_cons, List.length_nil, List.length_take, List.length_drop]); omega); ((try dsimp only); (try simp only [List.length_map, List.length_append, List.length_cons, List.length_nil, List.length_take, List.length_drop]); omega))
    | ((first | apply W.retM | apply W.endM'); (iterate 2 (try (simp (disch := (first | omega | (simp only [List.length_append, List.length_map, List.length_cons, List.length_nil, List.length_take, List.length_drop]; omega))) only [push_cast, simprocAttr, hf3, hf5, hf5b, hf6, hf7, hf9] <;> rfl))))

  refine AW.adoptCell 1 0 0 2 51 (r := { k := 2, es := [[.v (.slice none 0 0), .v (.slice none 0 0)]], ty := 38 }) (by simp (disch := omega) only [push_cast, simprocAttr, hf3, hf5, hf5b, hf6, hf7, hf9] <;> rfl) rfl ?_
  refine AW.adoptCell 1 0 1 2 51 (r := { k := 2, es := [[.ref 2 0 0, .v (.slice none 0 0)]], ty := 38 }) (by simp (disch := omega) only [push_cast, simprocAttr, hf3, hf5, hf5b, hf6, hf7, hf9] <;> rfl) rfl ?_
  refine AW.loop (fun n s => ∃ (k : Nat) (b : Bool) (A B : List Span) (rest : List ByteArray), n = rest.length ∧ (l.drop k = rest) ∧ (hoursD rest b ⟨A, B⟩ = RES) ∧ (A.length + B.length ≤ k) ∧ (k ≤ l.length) ∧ 4 ≤ s.nx ∧ s.tm 0 = .lst (l.map eStr) ∧ s.tm 2 = .ptr 0 0 0 1 ∧ s.tm 4 = .ptr 1 0 0 1 ∧ s.tm 5 = ab b ∧ s.tm 6 = ai k ∧ Pg.rowAt s.H (0) = some ({ k := 2, es := [[.v (.slice none 0 0), .v (.slice none 0 0)]], ty := 38 }) ∧ Pg.rowAt s.H (1) = some ({ k := 2, es := [[.ref 2 0 A.length, .ref 3 0 B.length]], ty := 38 }) ∧ Pg.rowAt s.H (2) = some ({ k := 2, es := A.map eSpan, ty := 51, lo := A.length }) ∧ Pg.rowAt s.H (3) = some ({ k := 2, es := B.map eSpan, ty := 51, lo := B.length })) (l.length) ⟨0, false, [], [], l, rfl, rfl, hRES, (Nat.zero_le _), (Nat.zero_le _), ?_, ?_, ?_, ?_, ?_, ?_, ?_, ?_, ?_, ?_⟩ ?_
  iterate 10 (first | (simp (disch := omega) only [push_cast, simprocAttr, hf3, hf5, hf5b, hf6, hf7, hf9] <;> first | rfl | omega) | omega)
  rintro n1 s1 ⟨k1, b1, A1, B1, rest1, hn1, hp01, hp11, hp21, hp31, hnl1, hS1⟩
  have hZ1 : (0 : Nat) ≠ s1.nx ∧ s1.nx ≠ (0 : Nat) ∧ (1 : Nat) ≠ s1.nx ∧ s1.nx ≠ (1 : Nat) ∧ (2 : Nat) ≠ s1.nx ∧ s1.nx ≠ (2 : Nat) ∧ (3 : Nat) ≠ s1.nx ∧ s1.nx ≠ (3 : Nat) := by omega
  refine AW.fresh fun hfr1 => ?_
  rcases rest1 with _ | ⟨x, rest1⟩
  rotate_left
  · obtain ⟨hk, hg, hd', hl', hm', hx⟩ := drop_cons hp01 eStr []
    unfold hoursD at hp11
    by_cases hz : bl x = bl sShut
    · rw [if_pos hz] at hp11
      have hT : (x.data.toList == (ByteArray.mk #[115, 104, 117, 116]).data.toList) = true := by rw [beq_iff_eq]; exact hz
      have hxx : x = ByteArray.mk #[115, 104, 117, 116] := bl_inj hz
      repeat' first
        | apply AW.seq | apply AW.region | apply AW.ret | apply AW.block | apply AW.skip | apply AW.exit | apply AW.scope | apply AW.label | apply AWL.nil | apply D.nil
        | refine W.draw cx_mixed (by decide +kernel) ?_
        | ((first | (apply W.step cx_ok; decide) | (apply D.step cx_ok; decide; decide) | apply W.store cx_ok | (apply W.gS; rfl; decide) | (apply D.gS; rfl; decide; decide) | apply AW.cond); (simp (disch := (first | omega | (simp only [List.length_append, List.length_map, List.length_cons, List.length_nil, List.length_take, List.length_drop, List.length_nil]; omega))) only [push_cast, simprocAttr, hS1, hZ1, hf3, hf5, hf5b, hf6, hf7, hf9, hk, hg, hx, hfr1, hT] <;> rfl); all_goals try ((with_reducible intro hI); try first | (cases hI; done) | (simp only [INTS, not_true_eq_false] at hI; try first | (exfalso; omega) | (have hT : True := hI; clear hT hI))))
        | (apply W.append cx_ok; decide; rfl; rfl; rfl; decide; (iterate 3 (simp (disch := (first | omega | (simp only [List.length_append, List.length_map, List.length_cons, List.length_nil, List.length_take, List.length_drop, List.length_nil]; omega))) only [push_cast, simprocAttr, hS1, hZ1, hf3, hf5, hf5b, hf6, hf7, hf9, hk, hg, hx, hfr1, hT] <;> rfl)); (first | (focus (simp; done)) | (intro c hc; obtain ⟨x, _, rfl⟩ := List.mem_map.1 hc; rfl)); ((first | rfl | simp (disch := omega) only [push_cast])); ((try dsimp only); (try simp only [List.length_map, List.length_append, List.length_cons, List.length_nil, List.length_take, List.length_drop, List.length_nil]); omega); ((try dsimp only); (try simp only [List.length_map, List.length_append, List.length_cons, List.length_nil, List.length_take, List.length_drop, List.length_nil]); omega))
        | ((first | apply W.retM | apply W.endM'); (iterate 2 (try (simp (disch := (first | omega | (simp only [List.length_append, List.length_map, List.length_cons, List.length_nil, List.length_take, List.length_drop, List.length_nil]; omega))) only [push_cast, simprocAttr, hS1, hZ1, hf3, hf5, hf5b, hf6, hf7, hf9, hk, hg, hx, hfr1, hT] <;> rfl))))

      all_goals (refine ⟨rest1.length, ?_, k1 + 1, true, A1, B1, rest1, rfl, hd', hp11, (by omega), (by omega), ?_, ?_, ?_, ?_, ?_, ?_, ?_, ?_, ?_, ?_⟩; ((simp only [List.length_cons] at *; omega)); all_goals first | (simp (disch := omega) only [push_cast, simprocAttr, hS1, hZ1, hk, hg, hx, hT, hf3, hf5, hf5b, hf6, hf7, hf9] <;> first | rfl | omega) | omega)
    have hT : (x.data.toList == (ByteArray.mk #[115, 104, 117, 116]).data.toList) = false := by rw [beq_eq_false_iff_ne]; exact hz
    rw [if_neg hz] at hp11
    have hsx := hs x hm'
    have c5 : OKv cx 33 [at_ x, .v (.int .u8 45)] (.lst ((Tx.wordsB 45 x).map eStr)) := RWords_ok x 45 (by omega)
    have c6 := RNumbers_ok (Tx.wordsB 45 x) (Nat.le_trans (wordsB_count 45 x) (by omega)) (fun w hw => Nat.le_trans (Tx.wordsB_size hw) (by omega))
    generalize Tx.wordsB 45 x = WW at *
    obtain ⟨NN, b, hv⟩ : ∃ v b, numsD WW [] = (v, b) := ⟨_, _, rfl⟩
    rw [hv] at c6 hp11
    dsimp only at c6 hp11
    cases b with
    | false =>
      rw [if_neg (by simp)] at hp11
      subst hp11
      repeat' first
        | apply AW.seq | apply AW.region | apply AW.ret | apply AW.block | apply AW.skip | apply AW.exit | apply AW.scope | apply AW.label | apply AWL.nil | apply D.nil
        | refine W.draw cx_mixed (by decide +kernel) ?_
        | ((first | (apply W.step cx_ok; decide) | (apply D.step cx_ok; decide; decide) | apply W.store cx_ok | (apply W.gS; rfl; decide) | (apply D.gS; rfl; decide; decide) | apply AW.cond); (simp (disch := (first | omega | (simp only [List.length_append, List.length_map, List.length_cons, List.length_nil, List.length_take, List.length_drop, List.length_nil]; omega))) only [push_cast, simprocAttr, hS1, hZ1, hf3, hf5, hf5b, hf6, hf7, hf9, hk, hg, hx, hfr1, hT] <;> rfl); all_goals try ((with_reducible intro hI); try first | (cases hI; done) | (simp only [INTS, not_true_eq_false] at hI; try first | (exfalso; omega) | (have hT : True := hI; clear hT hI))))
        | (apply W.append cx_ok; decide; rfl; rfl; rfl; decide; (iterate 3 (simp (disch := (first | omega | (simp only [List.length_append, List.length_map, List.length_cons, List.length_nil, List.length_take, List.length_drop, List.length_nil]; omega))) only [push_cast, simprocAttr, hS1, hZ1, hf3, hf5, hf5b, hf6, hf7, hf9, hk, hg, hx, hfr1, hT] <;> rfl)); (first | (focus (simp; done)) | (intro c hc; obtain ⟨x, _, rfl⟩ := List.mem_map.1 hc; rfl)); ((first | rfl | simp (disch := omega) only [push_cast])); ((try dsimp only); (try simp only [List.length_map, List.length_append, List.length_cons, List.length_nil, List.length_take, List.length_drop, List.length_nil]); omega); ((try dsimp only); (try simp only [List.length_map, List.length_append, List.length_cons, List.length_nil, List.length_take, List.length_drop, List.length_nil]); omega))
        | ((first | (apply W.callv cx_ok; decide) | (apply D.callv cx_ok; decide; decide)); (iterate 2 (simp (disch := (first | omega | (simp only [List.length_append, List.length_map, List.length_cons, List.length_nil, List.length_take, List.length_drop, List.length_nil]; omega))) only [push_cast, simprocAttr, hS1, hZ1, hf3, hf5, hf5b, hf6, hf7, hf9, hk, hg, hx, hfr1, hT] <;> rfl)); (with_reducible first | exact c5 | exact c6); try first | rfl | (simp (disch := (first | omega | (simp only [List.length_append, List.length_map, List.length_cons, List.length_nil, List.length_take, List.length_drop, List.length_nil]; omega))) only [push_cast, simprocAttr, hS1, hZ1, hf3, hf5, hf5b, hf6, hf7, hf9, hk, hg, hx, hfr1, hT] <;> rfl))
        | ((first | apply W.retM | apply W.endM'); (iterate 2 (try (simp (disch := (first | omega | (simp only [List.length_append, List.length_map, List.length_cons, List.length_nil, List.length_take, List.length_drop, List.length_nil]; omega))) only [push_cast, simprocAttr, hS1, hZ1, hf3, hf5, hf5b, hf6, hf7, hf9, hk, hg, hx, hfr1, hT] <;> rfl))))

      all_goals (show _ = _; rfl)
    | true =>
    by_cases hn : NN.length = 2
    rotate_left
    · rw [if_neg (by simp [hn])] at hp11
      subst hp11
      have n1 : ((NN.length : Int) = 2) = False := eq_false (by omega)
      have n2 : ((NN.length : Int) == 2) = false := by rw [beq_eq_false_iff_ne]; omega
      have n3 : ((NN.length : Int) != 2) = true := by rw [bne_iff_ne]; omega
      repeat' first
        | apply AW.seq | apply AW.region | apply AW.ret | apply AW.block | apply AW.skip | apply AW.exit | apply AW.scope | apply AW.label | apply AWL.nil | apply D.nil
        | refine W.draw cx_mixed (by decide +kernel) ?_
        | ((first | (apply W.step cx_ok; decide) | (apply D.step cx_ok; decide; decide) | apply W.store cx_ok | (apply W.gS; rfl; decide) | (apply D.gS; rfl; decide; decide) | apply AW.cond); (simp (disch := (first | omega | (simp only [List.length_append, List.length_map, List.length_cons, List.length_nil, List.length_take, List.length_drop, List.length_nil]; omega))) only [push_cast, simprocAttr, hS1, hZ1, hf3, hf5, hf5b, hf6, hf7, hf9, hk, hg, hx, hfr1, hT, n1, n2, n3] <;> rfl); all_goals try ((with_reducible intro hI); try first | (cases hI; done) | (simp only [INTS, not_true_eq_false] at hI; try first | (exfalso; omega) | (have hT : True := hI; clear hT hI))))
        | (apply W.append cx_ok; decide; rfl; rfl; rfl; decide; (iterate 3 (simp (disch := (first | omega | (simp only [List.length_append, List.length_map, List.length_cons, List.length_nil, List.length_take, List.length_drop, List.length_nil]; omega))) only [push_cast, simprocAttr, hS1, hZ1, hf3, hf5, hf5b, hf6, hf7, hf9, hk, hg, hx, hfr1, hT, n1, n2, n3] <;> rfl)); (first | (focus (simp; done)) | (intro c hc; obtain ⟨x, _, rfl⟩ := List.mem_map.1 hc; rfl)); ((first | rfl | simp (disch := omega) only [push_cast])); ((try dsimp only); (try simp only [List.length_map, List.length_append, List.length_cons, List.length_nil, List.length_take, List.length_drop, List.length_nil]); omega); ((try dsimp only); (try simp only [List.length_map, List.length_append, List.length_cons, List.length_nil, List.length_take, List.length_drop, List.length_nil]); omega))
        | ((first | (apply W.callv cx_ok; decide) | (apply D.callv cx_ok; decide; decide)); (iterate 2 (simp (disch := (first | omega | (simp only [List.length_append, List.length_map, List.length_cons, List.length_nil, List.length_take, List.length_drop, List.length_nil]; omega))) only [push_cast, simprocAttr, hS1, hZ1, hf3, hf5, hf5b, hf6, hf7, hf9, hk, hg, hx, hfr1, hT, n1, n2, n3] <;> rfl)); (with_reducible first | exact c5 | exact c6); try first | rfl | (simp (disch := (first | omega | (simp only [List.length_append, List.length_map, List.length_cons, List.length_nil, List.length_take, List.length_drop, List.length_nil]; omega))) only [push_cast, simprocAttr, hS1, hZ1, hf3, hf5, hf5b, hf6, hf7, hf9, hk, hg, hx, hfr1, hT, n1, n2, n3] <;> rfl))
        | ((first | apply W.retM | apply W.endM'); (iterate 2 (try (simp (disch := (first | omega | (simp only [List.length_append, List.length_map, List.length_cons, List.length_nil, List.length_take, List.length_drop, List.length_nil]; omega))) only [push_cast, simprocAttr, hS1, hZ1, hf3, hf5, hf5b, hf6, hf7, hf9, hk, hg, hx, hfr1, hT, n1, n2, n3] <;> rfl))))

      all_goals (show _ = _; rfl)
    have n1 : ((NN.length : Int) = 2) = True := eq_true (by omega)
    have n2 : ((NN.length : Int) == 2) = true := by rw [beq_iff_eq]; omega
    have n3 : ((NN.length : Int) != 2) = false := by simp [hn]
    rw [if_pos ⟨rfl, hn⟩] at hp11
    obtain ⟨p, q, rfl⟩ : ∃ p q, NN = [p, q] := by
      match NN, hn with
      | [p, q], _ => exact ⟨p, q, rfl⟩
    have g0 : (([p, q] : List Int).map eInt).length = 2 := rfl
    have g1 : ([p, q] : List Int).length = 2 := rfl
    cases b1 with
    | false =>
      rw [if_neg Bool.false_ne_true] at hp11
      simp only [List.getD_cons_zero, List.getD_cons_succ] at hp11
      repeat' first
        | ((apply D.buildL cx_ok; decide; decide); (iterate 3 (simp (disch := (first | omega | (simp only [List.length_append, List.length_map, List.length_cons, List.length_nil, List.length_take, List.length_drop, List.length_nil]; omega))) only [push_cast, simprocAttr, hS1, hZ1, hf3, hf5, hf5b, hf6, hf7, hf9, hk, hg, hx, hfr1, hT, n1, n2, n3, g0, g1, pur, ite_true] <;> rfl)); exact Nat.zero_le _)
        | apply AW.seq | apply AW.region | apply AW.ret | apply AW.block | apply AW.skip | apply AW.exit | apply AW.scope | apply AW.label | apply AWL.nil | apply D.nil
        | refine AW.draw (id := 13) cx_mixed [10, 12] [9, 11] [2, 1] 0 (by decide +kernel) ?_
        | refine W.draw cx_mixed (by decide +kernel) ?_
        | ((first | (apply W.step cx_ok; decide) | (apply D.step cx_ok; decide; decide) | apply W.store cx_ok | (apply W.gS; rfl; decide) | (apply D.gS; rfl; decide; decide) | apply AW.cond); (simp (disch := (first | omega | (simp only [List.length_append, List.length_map, List.length_cons, List.length_nil, List.length_take, List.length_drop, List.length_nil]; omega))) only [push_cast, simprocAttr, hS1, hZ1, hf3, hf5, hf5b, hf6, hf7, hf9, hk, hg, hx, hfr1, hT, n1, n2, n3, g0, g1] <;> rfl); all_goals try ((with_reducible intro hI); try first | (cases hI; done) | (simp only [INTS, not_true_eq_false] at hI; try first | (exfalso; omega) | (have hT : True := hI; clear hT hI))))
        | ((first | (apply D.store cx_ok; decide) | (apply D.stept cx_ok; decide; decide) | (apply D.stepm cx_ok; decide; decide)); (simp (disch := (first | omega | (simp only [List.length_append, List.length_map, List.length_cons, List.length_nil, List.length_take, List.length_drop, List.length_nil]; omega))) only [push_cast, simprocAttr, hS1, hZ1, hf3, hf5, hf5b, hf6, hf7, hf9, hk, hg, hx, hfr1, hT, n1, n2, n3, g0, g1] <;> rfl); try first | exact .inl rfl | exact .inr (by simp))
        | ((apply D.alloct cx_ok; decide; decide); (simp (disch := (first | omega | (simp only [List.length_append, List.length_map, List.length_cons, List.length_nil, List.length_take, List.length_drop, List.length_nil]; omega))) only [push_cast, simprocAttr, hS1, hZ1, hf3, hf5, hf5b, hf6, hf7, hf9, hk, hg, hx, hfr1, hT, n1, n2, n3, g0, g1] <;> rfl); first | exact .inl rfl | exact .inr (by simp))
        | (apply W.append cx_ok; decide; rfl; rfl; rfl; decide; (iterate 3 (simp (disch := (first | omega | (simp only [List.length_append, List.length_map, List.length_cons, List.length_nil, List.length_take, List.length_drop, List.length_nil]; omega))) only [push_cast, simprocAttr, hS1, hZ1, hf3, hf5, hf5b, hf6, hf7, hf9, hk, hg, hx, hfr1, hT, n1, n2, n3, g0, g1] <;> rfl)); (first | (focus (simp; done)) | (intro c hc; obtain ⟨x, _, rfl⟩ := List.mem_map.1 hc; rfl)); ((first | rfl | simp (disch := omega) only [push_cast])); ((try dsimp only); (try simp only [List.length_map, List.length_append, List.length_cons, List.length_nil, List.length_take, List.length_drop, List.length_nil]); omega); ((try dsimp only); (try simp only [List.length_map, List.length_append, List.length_cons, List.length_nil, List.length_take, List.length_drop, List.length_nil]); omega))
        | (apply D.append cx_ok; decide; decide; rfl; rfl; rfl; decide; (iterate 3 (simp (disch := (first | omega | (simp only [List.length_append, List.length_map, List.length_cons, List.length_nil, List.length_take, List.length_drop, List.length_nil]; omega))) only [push_cast, simprocAttr, hS1, hZ1, hf3, hf5, hf5b, hf6, hf7, hf9, hk, hg, hx, hfr1, hT, n1, n2, n3, g0, g1] <;> rfl)); (first | (focus (simp; done)) | (intro c hc; obtain ⟨x, _, rfl⟩ := List.mem_map.1 hc; rfl)); ((first | rfl | (focus (simp (disch := omega) only [push_cast]; done)))); ((try dsimp only); (try simp only [List.length_map, List.length_append, List.length_cons, List.length_nil, List.length_take, List.length_drop, List.length_nil]); omega); ((try dsimp only); (try simp only [List.length_map, List.length_append, List.length_cons, List.length_nil, List.length_take, List.length_drop, List.length_nil]); omega); first | exact .inl rfl | exact .inr (by simp))
        | ((first | (apply W.callv cx_ok; decide) | (apply D.callv cx_ok; decide; decide) | (apply D.callvt cx_ok; decide; decide)); (iterate 2 (simp (disch := (first | omega | (simp only [List.length_append, List.length_map, List.length_cons, List.length_nil, List.length_take, List.length_drop, List.length_nil]; omega))) only [push_cast, simprocAttr, hS1, hZ1, hf3, hf5, hf5b, hf6, hf7, hf9, hk, hg, hx, hfr1, hT, n1, n2, n3, g0, g1] <;> rfl)); (with_reducible first | exact c5 | exact c6); try first | rfl | (simp (disch := (first | omega | (simp only [List.length_append, List.length_map, List.length_cons, List.length_nil, List.length_take, List.length_drop, List.length_nil]; omega))) only [push_cast, simprocAttr, hS1, hZ1, hf3, hf5, hf5b, hf6, hf7, hf9, hk, hg, hx, hfr1, hT, n1, n2, n3, g0, g1] <;> rfl))
        | ((first | apply W.retM | apply W.endM'); (iterate 2 (try (simp (disch := (first | omega | (simp only [List.length_append, List.length_map, List.length_cons, List.length_nil, List.length_take, List.length_drop, List.length_nil]; omega))) only [push_cast, simprocAttr, hS1, hZ1, hf3, hf5, hf5b, hf6, hf7, hf9, hk, hg, hx, hfr1, hT, n1, n2, n3, g0, g1] <;> rfl))))

      all_goals (refine ⟨rest1.length, ?_, k1 + 1, false, (A1 ++ [⟨p, q⟩]), B1, rest1, rfl, hd', hp11, (by rw [List.length_append, List.length_singleton]; omega), (by omega), ?_, ?_, ?_, ?_, ?_, ?_, ?_, ?_, ?_, ?_⟩; ((simp only [List.length_cons] at *; omega)); all_goals first | (simp (disch := omega) only [push_cast, simprocAttr, hS1, hZ1, hk, hg, hx, hT, n1, n2, n3, hf3, hf5, hf5b, hf6, hf7, hf9] <;> first | rfl | omega) | omega)
    | true =>
      rw [if_pos rfl] at hp11
      simp only [List.getD_cons_zero, List.getD_cons_succ] at hp11
      repeat' first
        | ((apply D.buildL cx_ok; decide; decide); (iterate 3 (simp (disch := (first | omega | (simp only [List.length_append, List.length_map, List.length_cons, List.length_nil, List.length_take, List.length_drop, List.length_nil]; omega))) only [push_cast, simprocAttr, hS1, hZ1, hf3, hf5, hf5b, hf6, hf7, hf9, hk, hg, hx, hfr1, hT, n1, n2, n3, g0, g1, pur, ite_true] <;> rfl)); exact Nat.zero_le _)
        | apply AW.seq | apply AW.region | apply AW.ret | apply AW.block | apply AW.skip | apply AW.exit | apply AW.scope | apply AW.label | apply AWL.nil | apply D.nil
        | refine AW.draw (id := 12) cx_mixed [10, 12] [9, 11] [3, 1] 0 (by decide +kernel) ?_
        | refine W.draw cx_mixed (by decide +kernel) ?_
        | ((first | (apply W.step cx_ok; decide) | (apply D.step cx_ok; decide; decide) | apply W.store cx_ok | (apply W.gS; rfl; decide) | (apply D.gS; rfl; decide; decide) | apply AW.cond); (simp (disch := (first | omega | (simp only [List.length_append, List.length_map, List.length_cons, List.length_nil, List.length_take, List.length_drop, List.length_nil]; omega))) only [push_cast, simprocAttr, hS1, hZ1, hf3, hf5, hf5b, hf6, hf7, hf9, hk, hg, hx, hfr1, hT, n1, n2, n3, g0, g1] <;> rfl); all_goals try ((with_reducible intro hI); try first | (cases hI; done) | (simp only [INTS, not_true_eq_false] at hI; try first | (exfalso; omega) | (have hT : True := hI; clear hT hI))))
        | ((first | (apply D.store cx_ok; decide) | (apply D.stept cx_ok; decide; decide) | (apply D.stepm cx_ok; decide; decide)); (simp (disch := (first | omega | (simp only [List.length_append, List.length_map, List.length_cons, List.length_nil, List.length_take, List.length_drop, List.length_nil]; omega))) only [push_cast, simprocAttr, hS1, hZ1, hf3, hf5, hf5b, hf6, hf7, hf9, hk, hg, hx, hfr1, hT, n1, n2, n3, g0, g1] <;> rfl); try first | exact .inl rfl | exact .inr (by simp))
        | ((apply D.alloct cx_ok; decide; decide); (simp (disch := (first | omega | (simp only [List.length_append, List.length_map, List.length_cons, List.length_nil, List.length_take, List.length_drop, List.length_nil]; omega))) only [push_cast, simprocAttr, hS1, hZ1, hf3, hf5, hf5b, hf6, hf7, hf9, hk, hg, hx, hfr1, hT, n1, n2, n3, g0, g1] <;> rfl); first | exact .inl rfl | exact .inr (by simp))
        | (apply W.append cx_ok; decide; rfl; rfl; rfl; decide; (iterate 3 (simp (disch := (first | omega | (simp only [List.length_append, List.length_map, List.length_cons, List.length_nil, List.length_take, List.length_drop, List.length_nil]; omega))) only [push_cast, simprocAttr, hS1, hZ1, hf3, hf5, hf5b, hf6, hf7, hf9, hk, hg, hx, hfr1, hT, n1, n2, n3, g0, g1] <;> rfl)); (first | (focus (simp; done)) | (intro c hc; obtain ⟨x, _, rfl⟩ := List.mem_map.1 hc; rfl)); ((first | rfl | simp (disch := omega) only [push_cast])); ((try dsimp only); (try simp only [List.length_map, List.length_append, List.length_cons, List.length_nil, List.length_take, List.length_drop, List.length_nil]); omega); ((try dsimp only); (try simp only [List.length_map, List.length_append, List.length_cons, List.length_nil, List.length_take, List.length_drop, List.length_nil]); omega))
        | (apply D.append cx_ok; decide; decide; rfl; rfl; rfl; decide; (iterate 3 (simp (disch := (first | omega | (simp only [List.length_append, List.length_map, List.length_cons, List.length_nil, List.length_take, List.length_drop, List.length_nil]; omega))) only [push_cast, simprocAttr, hS1, hZ1, hf3, hf5, hf5b, hf6, hf7, hf9, hk, hg, hx, hfr1, hT, n1, n2, n3, g0, g1] <;> rfl)); (first | (focus (simp; done)) | (intro c hc; obtain ⟨x, _, rfl⟩ := List.mem_map.1 hc; rfl)); ((first | rfl | (focus (simp (disch := omega) only [push_cast]; done)))); ((try dsimp only); (try simp only [List.length_map, List.length_append, List.length_cons, List.length_nil, List.length_take, List.length_drop, List.length_nil]); omega); ((try dsimp only); (try simp only [List.length_map, List.length_append, List.length_cons, List.length_nil, List.length_take, List.length_drop, List.length_nil]); omega); first | exact .inl rfl | exact .inr (by simp))
        | ((first | (apply W.callv cx_ok; decide) | (apply D.callv cx_ok; decide; decide) | (apply D.callvt cx_ok; decide; decide)); (iterate 2 (simp (disch := (first | omega | (simp only [List.length_append, List.length_map, List.length_cons, List.length_nil, List.length_take, List.length_drop, List.length_nil]; omega))) only [push_cast, simprocAttr, hS1, hZ1, hf3, hf5, hf5b, hf6, hf7, hf9, hk, hg, hx, hfr1, hT, n1, n2, n3, g0, g1] <;> rfl)); (with_reducible first | exact c5 | exact c6); try first | rfl | (simp (disch := (first | omega | (simp only [List.length_append, List.length_map, List.length_cons, List.length_nil, List.length_take, List.length_drop, List.length_nil]; omega))) only [push_cast, simprocAttr, hS1, hZ1, hf3, hf5, hf5b, hf6, hf7, hf9, hk, hg, hx, hfr1, hT, n1, n2, n3, g0, g1] <;> rfl))
        | ((first | apply W.retM | apply W.endM'); (iterate 2 (try (simp (disch := (first | omega | (simp only [List.length_append, List.length_map, List.length_cons, List.length_nil, List.length_take, List.length_drop, List.length_nil]; omega))) only [push_cast, simprocAttr, hS1, hZ1, hf3, hf5, hf5b, hf6, hf7, hf9, hk, hg, hx, hfr1, hT, n1, n2, n3, g0, g1] <;> rfl))))

      all_goals (refine ⟨rest1.length, ?_, k1 + 1, true, A1, (B1 ++ [⟨p, q⟩]), rest1, rfl, hd', hp11, (by rw [List.length_append, List.length_singleton]; omega), (by omega), ?_, ?_, ?_, ?_, ?_, ?_, ?_, ?_, ?_, ?_⟩; ((simp only [List.length_cons] at *; omega)); all_goals first | (simp (disch := omega) only [push_cast, simprocAttr, hS1, hZ1, hk, hg, hx, hT, n1, n2, n3, hf3, hf5, hf5b, hf6, hf7, hf9] <;> first | rfl | omega) | omega)
  have hk := drop_nil hp01
  have hq : ((⟨A1, B1⟩ : Door), true) = RES := hp11
  subst hq
  repeat' first
    | apply AW.seq | apply AW.region | apply AW.ret | apply AW.block | apply AW.skip | apply AW.exit | apply AW.scope | apply AW.label | apply AWL.nil | apply D.nil
    | refine W.draw cx_mixed (by decide +kernel) ?_
    | ((first | (apply W.step cx_ok; decide) | (apply D.step cx_ok; decide; decide) | apply W.store cx_ok | (apply W.gS; rfl; decide) | (apply D.gS; rfl; decide; decide) | apply AW.cond); (simp (disch := (first | omega | (simp only [List.length_append, List.length_map, List.length_cons, List.length_nil, List.length_take, List.length_drop, List.length_nil]; omega))) only [push_cast, simprocAttr, hS1, hZ1, hf3, hf5, hf5b, hf6, hf7, hf9, hk] <;> rfl); all_goals try ((with_reducible intro hI); try first | (cases hI; done) | (simp only [INTS, not_true_eq_false] at hI; try first | (exfalso; omega) | (have hT : True := hI; clear hT hI))))
    | (apply W.append cx_ok; decide; rfl; rfl; rfl; decide; (iterate 3 (simp (disch := (first | omega | (simp only [List.length_append, List.length_map, List.length_cons, List.length_nil, List.length_take, List.length_drop, List.length_nil]; omega))) only [push_cast, simprocAttr, hS1, hZ1, hf3, hf5, hf5b, hf6, hf7, hf9, hk] <;> rfl)); (first | (focus (simp; done)) | (intro c hc; obtain ⟨x, _, rfl⟩ := List.mem_map.1 hc; rfl)); ((first | rfl | simp (disch := omega) only [push_cast])); ((try dsimp only); (try simp only [List.length_map, List.length_append, List.length_cons, List.length_nil, List.length_take, List.length_drop, List.length_nil]); omega); ((try dsimp only); (try simp only [List.length_map, List.length_append, List.length_cons, List.length_nil, List.length_take, List.length_drop, List.length_nil]); omega))
    | ((first | apply W.retM | apply W.endM'); (iterate 2 (try (simp (disch := (first | omega | (simp only [List.length_append, List.length_map, List.length_cons, List.length_nil, List.length_take, List.length_drop, List.length_nil]; omega))) only [push_cast, simprocAttr, hS1, hZ1, hf3, hf5, hf5b, hf6, hf7, hf9, hk] <;> rfl))))

  all_goals (show _ = _; rfl)
end Go.Proofs.Hz
