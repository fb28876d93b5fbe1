/-
  Contracts of functions, proved by going through their code. No conditions.
-/
import Derived.Test.YtbeiiipphicdlaaGreatDoorTap
import Derived.Test.YtbeiiipphicdlaaGreatDoorTaq
import Derived.Test.YtbeiiipphicdlaaGreatDoorTav
set_option linter.unusedVariables false
set_option linter.unusedSimpArgs false
set_option maxHeartbeats 8000000
set_option maxRecDepth 10000
namespace Go.Proofs.Hz
open Go Go.Pg Go.Proofs Go.Tx
attribute [local push_cast] Bool.and_false Bool.and_self Bool.and_true Bool.false_and Bool.false_eq_true Bool.not_false Bool.not_true Bool.true_and List.all_append List.all_cons List.all_nil List.length_drop List.length_take List.mem_cons List.not_mem_nil List.take_length List.take_of_length_le Nat.add_assoc TyD.isAgg and_self and_true natNe pureA pureL true_and
theorem rowAt_aftJ (H : Nat → Option AO) (ids : List Nat) (r : AV) (j : Nat) : Pg.rowAt (afterH H ids r) j = if flatA r = true then Pg.rowAt H j else if j ∈ ids then (Pg.rowAt H j).map (fun r => { r with fro := true }) else Pg.rowAt H j := by
  unfold afterH
  split
  · rfl
  · have := rowAt_frzG H ids j
    unfold frz' at this
    exact this
theorem takeM {α β : Type} (f : α → β) (l : List α) (k : Nat) : (l.map f).take k = (l.take k).map f := List.map_take.symm
theorem dropM {α β : Type} (f : α → β) (l : List α) (k : Nat) : (l.map f).drop k = (l.drop k).map f := List.map_drop.symm
theorem leT {a b : Nat} (h : a ≤ b) : (a ≤ b) = True := eq_true h
theorem words_hit {c : UInt8} {l : List UInt8} {f i : Nat} (hfi : f ≤ i) (hi : i < l.length) (hn : c ∉ (l.drop f).take (i - f)) (hx : l.getD i 0 = c) : wordsF c (l.drop f) = (l.drop f).take (i - f) :: wordsF c (l.drop (i + 1)) := by
  have h1 : l.drop f = (l.drop f).take (i - f) ++ c :: l.drop (i + 1) := by
    conv => lhs; rw [← List.take_append_drop (i - f) (l.drop f)]
    rw [List.drop_drop, show f + (i - f) = i by omega, List.drop_eq_getElem_cons hi]
    rw [List.getD_eq_getElem?_getD, List.getElem?_eq_getElem hi] at hx
    rw [show l[i] = c from hx]
  conv => lhs; rw [h1, wordsF_cons hn]
theorem words_miss {c : UInt8} {l : List UInt8} {f i : Nat} (hfi : f ≤ i) (hi : i < l.length) (hn : c ∉ (l.drop f).take (i - f)) (hx : l.getD i 0 ≠ c) : c ∉ (l.drop f).take (i + 1 - f) := by
  rw [show i + 1 - f = i - f + 1 by omega, List.take_succ_eq_append_getElem (by rw [List.length_drop]; omega)]
  intro hc
  rcases List.mem_append.1 hc with hc | hc
  · exact hn hc
  · rw [List.mem_singleton, List.getElem_drop] at hc
    apply hx
    rw [List.getD_eq_getElem?_getD, List.getElem?_eq_getElem hi]
    show l[i] = c
    rw [hc]
    congr 1; omega
theorem RWords_ok (s0 : ByteArray) (c : UInt8) (hs : s0.size ≤ 1048576) : OKv cx 33 [at_ s0, .v (.int .u8 c.toNat)] (.lst ((Tx.wordsB c s0).map eStr)) := by
  obtain ⟨RES, hRES⟩ : ∃ z, Tx.wordsB c s0 = z := ⟨_, rfl⟩
  have hR0 := hRES
  rw [hRES]
  rw [wordsB_eq] at hR0
  have hbl := bl_len s0
  have hf3 : ∀ x, flatA (.v x) = true := fun _ => rfl
  have hf5 : ∀ x y, flatA (.tup [.v x, .v y]) = true := fun _ _ => rfl
  have hf5b : ∀ x y z, flatA (.tup [.v x, .v y, .v z]) = true := fun _ _ _ => rfl
  have hf6 : ∀ l, flatA (.lst l) = false := fun _ => rfl
  have hf7 : ∀ l x, flatA (.tup [.lst l, .v x]) = false := fun _ _ => rfl
  have hf9 : ∀ H ids x y, afterH H ids (.tup [.v x, .v y]) = H := fun _ _ _ _ => rfl
  refine OKat.of_body (rs := [4]) Tryz.func33 rfl (by decide +kernel) rfl (by simp [Tryz.ntmps33]) ?_
  simp only [Tryz.ntmps33]
  repeat' first
    | apply AW.seq | apply AW.region | apply AW.ret | apply AW.block | apply AW.skip | apply AW.exit | apply AW.scope | apply AW.label | apply AWL.nil
    | ((first | (apply W.step cx_ok; decide) | apply AW.cond); (simp (disch := (first | omega | (simp only [List.length_append, List.length_map, List.length_cons, List.length_nil, List.length_take, List.length_drop]; omega))) only [push_cast, simprocAttr, takeM, dropM, leT, hf3, hf5, hf5b, St.back, rowAt_aftJ, idsL, idsA, List.cons_append, List.nil_append, List.append_nil, hf6, hf7, hf9] <;> rfl); all_goals try ((with_reducible intro hI); try first | (cases hI; done) | (simp only [INTS, not_true_eq_false] at hI; try first | (exfalso; omega) | (have hT : True := hI; clear hT hI))))
    | (apply W.append cx_ok; decide; rfl; rfl; rfl; decide; (iterate 3 (simp (disch := (first | omega | (simp only [List.length_append, List.length_map, List.length_cons, List.length_nil, List.length_take, List.length_drop]; omega))) only [push_cast, simprocAttr, takeM, dropM, leT, hf3, hf5, hf5b, St.back, rowAt_aftJ, idsL, idsA, List.cons_append, List.nil_append, List.append_nil, hf6, hf7, hf9] <;> rfl)); (first | (focus (simp; done)) | (intro c hc; obtain ⟨x, _, rfl⟩ := List.mem_map.1 hc; rfl)); ((first | rfl | simp (disch := omega) only [push_cast])); ((try dsimp only); (try simp only [List.length_map, List.length_append, List.length_cons, List.length_nil, List.length_take, List.length_drop]); omega); ((try dsimp only); (try simp only [List.length_map, List.length_append, List.length_cons, List.length_nil, List.length_take, List.length_drop]); omega))
    | ((first | apply W.ret1 | apply W.end1); (iterate 2 (try (simp (disch := (first | omega | (simp only [List.length_append, List.length_map, List.length_cons, List.length_nil, List.length_take, List.length_drop]; omega))) only [push_cast, simprocAttr, takeM, dropM, leT, hf3, hf5, hf5b, St.back, rowAt_aftJ, idsL, idsA, List.cons_append, List.nil_append, List.append_nil, hf6, hf7, hf9] <;> rfl))))

  refine AW.adopt 5 1 9 ?_ ?_
  · (simp (disch := omega) only [push_cast, simprocAttr, hf3, hf5, hf5b, St.back, rowAt_aftJ, idsL, idsA, List.cons_append, List.nil_append, List.append_nil, hf6, hf7, hf9] <;> rfl)
  refine AW.loop (fun n s => ∃ (i f : Nat) (O : List ByteArray), n = s0.size - i ∧ (f ≤ i ∧ i ≤ s0.size) ∧ (O ++ (wordsF c ((bl s0).drop f)).map mkB = RES) ∧ (c ∉ ((bl s0).drop f).take (i - f)) ∧ (O.length ≤ f) ∧ 1 ≤ s.nx ∧ s.tm 0 = at_ s0 ∧ s.tm 1 = .v (.int .u8 c.toNat) ∧ s.tm 5 = .ref 0 0 O.length ∧ s.tm 6 = ai f ∧ s.tm 7 = ai i ∧ Pg.rowAt s.H (0) = some ({ k := 1, es := O.map eStr, ty := 9, lo := O.length })) (s0.size) ⟨0, 0, [], rfl, (by omega), (by rw [List.nil_append, List.drop_zero]; exact hR0), (by simp), (Nat.zero_le _), ?_, ?_, ?_, ?_, ?_, ?_, ?_⟩ ?_
  iterate 7 (first | (simp (disch := omega) only [push_cast, simprocAttr, isEmpty_map, List.isEmpty_cons, List.map_append, List.map_cons, List.map_nil, List.length_append, List.length_cons, List.length_nil, Nat.zero_add, hf3, hf5, hf5b, St.back, rowAt_aftJ, idsL, idsA, List.cons_append, List.nil_append, List.append_nil, hf6, hf7, hf9] <;> first | rfl | omega) | omega)
  rintro n1 s1 ⟨i1, f1, O1, hn1, hp01, hp11, hp21, hp31, hnl1, hS1⟩
  have hZ1 : (0 : Nat) ≠ s1.nx ∧ s1.nx ≠ (0 : Nat) := by omega
  refine AW.fresh fun hfr1 => ?_
  by_cases hi : i1 < s0.size
  · have hiT : ((i1 : Int) < (s0.size : Int)) = True := eq_true (by omega)
    obtain ⟨x, hx⟩ : ∃ z, s0.data.toList.getD i1 0 = z := ⟨_, rfl⟩
    have hil : i1 < (bl s0).length := by rw [hbl]; exact hi
    by_cases hc : x = c
    · have hT : ((x.toNat : Int) = (c.toNat : Int)) = True := eq_true (by rw [hc])
      have hB : ((x.toNat : Int) == (c.toNat : Int)) = true := by rw [beq_iff_eq, hc]
      have hwh := words_hit hp01.1 hil hp21 (by rw [← hc]; exact hx)
      have hz1 : f1 ≤ i1 := hp01.1
      have hz2 : i1 ≤ s0.size := hp01.2
      have hq : (O1 ++ [s0.extract f1 i1]) ++ (wordsF c ((bl s0).drop (i1 + 1))).map mkB = RES := by
        rw [← hp11, hwh, List.append_assoc]
        congr 1
        rw [List.map_cons, List.singleton_append, ← bl_ext, mk_bl]
      repeat' first
        | apply AW.seq | apply AW.region | apply AW.ret | apply AW.block | apply AW.skip | apply AW.exit | apply AW.scope | apply AW.label | apply AWL.nil
        | ((first | (apply W.step cx_ok; decide) | apply AW.cond); (simp (disch := (first | omega | (simp only [List.length_append, List.length_map, List.length_cons, List.length_nil, List.length_take, List.length_drop, List.length_nil]; omega))) only [push_cast, simprocAttr, takeM, dropM, leT, hS1, hZ1, hfr1, isEmpty_map, List.isEmpty_cons, List.map_append, List.map_cons, List.map_nil, List.length_append, List.length_cons, List.length_nil, Nat.zero_add, hf3, hf5, hf5b, St.back, rowAt_aftJ, idsL, idsA, List.cons_append, List.nil_append, List.append_nil, hf6, hf7, hf9, hiT, hx, hT, hB, hz1, hz2] <;> rfl); all_goals try ((with_reducible intro hI); try first | (cases hI; done) | (simp only [INTS, not_true_eq_false] at hI; try first | (exfalso; omega) | (have hT : True := hI; clear hT hI))))
        | (apply W.append cx_ok; decide; rfl; rfl; rfl; decide; (iterate 3 (simp (disch := (first | omega | (simp only [List.length_append, List.length_map, List.length_cons, List.length_nil, List.length_take, List.length_drop, List.length_nil]; omega))) only [push_cast, simprocAttr, takeM, dropM, leT, hS1, hZ1, hfr1, isEmpty_map, List.isEmpty_cons, List.map_append, List.map_cons, List.map_nil, List.length_append, List.length_cons, List.length_nil, Nat.zero_add, hf3, hf5, hf5b, St.back, rowAt_aftJ, idsL, idsA, List.cons_append, List.nil_append, List.append_nil, hf6, hf7, hf9, hiT, hx, hT, hB, hz1, hz2] <;> rfl)); (first | (focus (simp; done)) | (intro c hc; obtain ⟨x, _, rfl⟩ := List.mem_map.1 hc; rfl)); ((first | rfl | simp (disch := omega) only [push_cast])); ((try dsimp only); (try simp only [List.length_map, List.length_append, List.length_cons, List.length_nil, List.length_take, List.length_drop, List.length_nil]); omega); ((try dsimp only); (try simp only [List.length_map, List.length_append, List.length_cons, List.length_nil, List.length_take, List.length_drop, List.length_nil]); omega))
        | ((first | apply W.ret1 | apply W.end1); (iterate 2 (try (simp (disch := (first | omega | (simp only [List.length_append, List.length_map, List.length_cons, List.length_nil, List.length_take, List.length_drop, List.length_nil]; omega))) only [push_cast, simprocAttr, takeM, dropM, leT, hS1, hZ1, hfr1, isEmpty_map, List.isEmpty_cons, List.map_append, List.map_cons, List.map_nil, List.length_append, List.length_cons, List.length_nil, Nat.zero_add, hf3, hf5, hf5b, St.back, rowAt_aftJ, idsL, idsA, List.cons_append, List.nil_append, List.append_nil, hf6, hf7, hf9, hiT, hx, hT, hB, hz1, hz2] <;> rfl))))

      all_goals (refine ⟨s0.size - (i1 + 1), ?_, i1 + 1, i1 + 1, (O1 ++ [s0.extract f1 i1]), rfl, (by omega), hq, (by simp), (by rw [List.length_append, List.length_singleton]; omega), ?_, ?_, ?_, ?_, ?_, ?_, ?_⟩; (omega); all_goals first | (simp (disch := omega) only [push_cast, simprocAttr, hS1, hZ1, hiT, hx, hT, hB, hz1, hz2, hfr1, isEmpty_map, List.isEmpty_cons, List.map_append, List.map_cons, List.map_nil, List.length_append, List.length_cons, List.length_nil, Nat.zero_add, hf3, hf5, hf5b, St.back, rowAt_aftJ, idsL, idsA, List.cons_append, List.nil_append, List.append_nil, hf6, hf7, hf9] <;> first | rfl | omega) | omega)
    · have hne : ¬ ((x.toNat : Int) = (c.toNat : Int)) := fun h => hc (UInt8.toNat_inj.1 (by omega))
      have hT := eq_false hne
      have hB : ((x.toNat : Int) == (c.toNat : Int)) = false := by rw [beq_eq_false_iff_ne]; exact hne
      have hwm := words_miss hp01.1 hil hp21 (fun h => hc (by rw [← h]; exact hx.symm))
      repeat' first
        | apply AW.seq | apply AW.region | apply AW.ret | apply AW.block | apply AW.skip | apply AW.exit | apply AW.scope | apply AW.label | apply AWL.nil
        | ((first | (apply W.step cx_ok; decide) | apply AW.cond); (simp (disch := (first | omega | (simp only [List.length_append, List.length_map, List.length_cons, List.length_nil, List.length_take, List.length_drop, List.length_nil]; omega))) only [push_cast, simprocAttr, takeM, dropM, leT, hS1, hZ1, hfr1, isEmpty_map, List.isEmpty_cons, List.map_append, List.map_cons, List.map_nil, List.length_append, List.length_cons, List.length_nil, Nat.zero_add, hf3, hf5, hf5b, St.back, rowAt_aftJ, idsL, idsA, List.cons_append, List.nil_append, List.append_nil, hf6, hf7, hf9, hiT, hx, hT, hB] <;> rfl); all_goals try ((with_reducible intro hI); try first | (cases hI; done) | (simp only [INTS, not_true_eq_false] at hI; try first | (exfalso; omega) | (have hT : True := hI; clear hT hI))))
        | (apply W.append cx_ok; decide; rfl; rfl; rfl; decide; (iterate 3 (simp (disch := (first | omega | (simp only [List.length_append, List.length_map, List.length_cons, List.length_nil, List.length_take, List.length_drop, List.length_nil]; omega))) only [push_cast, simprocAttr, takeM, dropM, leT, hS1, hZ1, hfr1, isEmpty_map, List.isEmpty_cons, List.map_append, List.map_cons, List.map_nil, List.length_append, List.length_cons, List.length_nil, Nat.zero_add, hf3, hf5, hf5b, St.back, rowAt_aftJ, idsL, idsA, List.cons_append, List.nil_append, List.append_nil, hf6, hf7, hf9, hiT, hx, hT, hB] <;> rfl)); (first | (focus (simp; done)) | (intro c hc; obtain ⟨x, _, rfl⟩ := List.mem_map.1 hc; rfl)); ((first | rfl | simp (disch := omega) only [push_cast])); ((try dsimp only); (try simp only [List.length_map, List.length_append, List.length_cons, List.length_nil, List.length_take, List.length_drop, List.length_nil]); omega); ((try dsimp only); (try simp only [List.length_map, List.length_append, List.length_cons, List.length_nil, List.length_take, List.length_drop, List.length_nil]); omega))
        | ((first | apply W.ret1 | apply W.end1); (iterate 2 (try (simp (disch := (first | omega | (simp only [List.length_append, List.length_map, List.length_cons, List.length_nil, List.length_take, List.length_drop, List.length_nil]; omega))) only [push_cast, simprocAttr, takeM, dropM, leT, hS1, hZ1, hfr1, isEmpty_map, List.isEmpty_cons, List.map_append, List.map_cons, List.map_nil, List.length_append, List.length_cons, List.length_nil, Nat.zero_add, hf3, hf5, hf5b, St.back, rowAt_aftJ, idsL, idsA, List.cons_append, List.nil_append, List.append_nil, hf6, hf7, hf9, hiT, hx, hT, hB] <;> rfl))))

      all_goals (refine ⟨s0.size - (i1 + 1), ?_, i1 + 1, f1, O1, rfl, (by omega), hp11, hwm, hp31, ?_, ?_, ?_, ?_, ?_, ?_, ?_⟩; (omega); all_goals first | (simp (disch := omega) only [push_cast, simprocAttr, hS1, hZ1, hiT, hx, hT, hB, hfr1, isEmpty_map, List.isEmpty_cons, List.map_append, List.map_cons, List.map_nil, List.length_append, List.length_cons, List.length_nil, Nat.zero_add, hf3, hf5, hf5b, St.back, rowAt_aftJ, idsL, idsA, List.cons_append, List.nil_append, List.append_nil, hf6, hf7, hf9] <;> first | rfl | omega) | omega)
  have hiF : ((i1 : Int) < (s0.size : Int)) = False := eq_false (by omega)
  have hi1 : i1 = s0.size := by omega
  subst hi1
  have hz1 : f1 ≤ s0.size := hp01.1
  have hq : O1 ++ [s0.extract f1 s0.size] = RES := by
    rw [← hp11, wordsF_none (by rw [List.take_of_length_le (by rw [List.length_drop, hbl]; omega)] at hp21; exact hp21), List.map_cons, List.map_nil, ← bl_ext_end, mk_bl]
  have hms : O1.map eStr ++ [[.v (.string (s0.extract f1 s0.size))]] = RES.map eStr := by rw [← hq, List.map_append]; rfl
  have hRl : RES.length = O1.length + 1 := by rw [← hq, List.length_append, List.length_singleton]
  have htk : RES.take (O1.length + 1) = RES := List.take_of_length_le (by omega)
  repeat' first
    | apply AW.seq | apply AW.region | apply AW.ret | apply AW.block | apply AW.skip | apply AW.exit | apply AW.scope | apply AW.label | apply AWL.nil
    | ((first | (apply W.step cx_ok; decide) | apply AW.cond); (simp (disch := (first | omega | (simp only [List.length_append, List.length_map, List.length_cons, List.length_nil, List.length_take, List.length_drop, List.length_nil]; omega))) only [push_cast, simprocAttr, takeM, dropM, leT, hS1, hZ1, hfr1, isEmpty_map, List.isEmpty_cons, List.map_cons, List.map_nil, List.length_append, List.length_cons, List.length_nil, Nat.zero_add, hf3, hf5, hf5b, St.back, rowAt_aftJ, idsL, idsA, List.cons_append, List.nil_append, List.append_nil, hf6, hf7, hf9, hiF, hz1, Nat.le_refl, hms, hRl, htk, pure_str, viewLL_str] <;> rfl); all_goals try ((with_reducible intro hI); try first | (cases hI; done) | (simp only [INTS, not_true_eq_false] at hI; try first | (exfalso; omega) | (have hT : True := hI; clear hT hI))))
    | (apply W.append cx_ok; decide; rfl; rfl; rfl; decide; (iterate 3 (simp (disch := (first | omega | (simp only [List.length_append, List.length_map, List.length_cons, List.length_nil, List.length_take, List.length_drop, List.length_nil]; omega))) only [push_cast, simprocAttr, takeM, dropM, leT, hS1, hZ1, hfr1, isEmpty_map, List.isEmpty_cons, List.map_cons, List.map_nil, List.length_append, List.length_cons, List.length_nil, Nat.zero_add, hf3, hf5, hf5b, St.back, rowAt_aftJ, idsL, idsA, List.cons_append, List.nil_append, List.append_nil, hf6, hf7, hf9, hiF, hz1, Nat.le_refl, hms, hRl, htk, pure_str, viewLL_str] <;> rfl)); (first | (focus (simp; done)) | (intro c hc; obtain ⟨x, _, rfl⟩ := List.mem_map.1 hc; rfl)); ((first | rfl | simp (disch := omega) only [push_cast])); ((try dsimp only); (try simp only [List.length_map, List.length_append, List.length_cons, List.length_nil, List.length_take, List.length_drop, List.length_nil]); omega); ((try dsimp only); (try simp only [List.length_map, List.length_append, List.length_cons, List.length_nil, List.length_take, List.length_drop, List.length_nil]); omega))
    | ((first | apply W.ret1 | apply W.end1); (iterate 2 (try (simp (disch := (first | omega | (simp only [List.length_append, List.length_map, List.length_cons, List.length_nil, List.length_take, List.length_drop, List.length_nil]; omega))) only [push_cast, simprocAttr, takeM, dropM, leT, hS1, hZ1, hfr1, isEmpty_map, List.isEmpty_cons, List.map_cons, List.map_nil, List.length_append, List.length_cons, List.length_nil, Nat.zero_add, hf3, hf5, hf5b, St.back, rowAt_aftJ, idsL, idsA, List.cons_append, List.nil_append, List.append_nil, hf6, hf7, hf9, hiF, hz1, Nat.le_refl, hms, hRl, htk, pure_str, viewLL_str] <;> rfl))))

  all_goals (show _ = _; rfl)
theorem valD_ge : ∀ (l : List UInt8) (a : Nat), valD a l = a * 10 ^ l.length + valD 0 l
  | [], a => by simp [valD]
  | c :: l, a => by
    have h1 := valD_ge l (10 * a + (c.toNat - 48))
    have h2 := valD_ge l (10 * 0 + (c.toNat - 48))
    show valD (10 * a + (c.toNat - 48)) l = a * 10 ^ (l.length + 1) + valD (10 * 0 + (c.toNat - 48)) l
    rw [h1, h2, Nat.pow_succ, Nat.add_mul, Nat.add_mul]
    have : 10 * a * 10 ^ l.length = a * (10 ^ l.length * 10) := by rw [Nat.mul_comm 10 a, Nat.mul_assoc, Nat.mul_comm 10]
    omega
theorem valD_lt : ∀ (l : List UInt8), (∀ c ∈ l, isDig c) → valD 0 l < 10 ^ l.length
  | [], _ => by simp [valD]
  | c :: l, h => by
    have h1 := valD_lt l fun d hd => h d (by simp [hd])
    have h2 := h c (by simp)
    show valD (10 * 0 + (c.toNat - 48)) l < 10 ^ (l.length + 1)
    rw [valD_ge, Nat.pow_succ]
    have hd : 10 * 0 + (c.toNat - 48) ≤ 9 := by have := h2.2; omega
    have := Nat.mul_le_mul_right (10 ^ l.length) hd
    omega
theorem take_next {l : List UInt8} {i : Nat} {x : UInt8} (h : i < l.length) (hx : l.getD i 0 = x) : l.take (i + 1) = l.take i ++ [x] := by
  rw [List.take_succ_eq_append_getElem h]
  rw [List.getD_eq_getElem?_getD, List.getElem?_eq_getElem h] at hx
  rw [show l[i] = x from hx]
theorem mem_getD {l : List UInt8} {i : Nat} {x : UInt8} (h : i < l.length) (hx : l.getD i 0 = x) : x ∈ l := by
  rw [List.getD_eq_getElem?_getD, List.getElem?_eq_getElem h] at hx
  rw [← show l[i] = x from hx]
  exact List.getElem_mem _
theorem RNumber_ok (s0 : ByteArray) (hs : s0.size ≤ 1048576) : OKv cx 60 [at_ s0] (.tup [ai (numD s0).1, ab (numD s0).2]) := by
  unfold numD magB
  by_cases h0 : 0 < s0.size
  · have h0T : ((0 : Int) < (s0.size : Int)) = True := eq_true (by omega)
    obtain ⟨y, hy⟩ : ∃ z, s0.data.toList.getD 0 0 = z := ⟨_, rfl⟩
    by_cases hm : y = 45
    · have hM : minusB s0 = true := by
        unfold minusB
        rw [decide_eq_true h0, Bool.true_and, decide_eq_true_eq]
        rw [← hm]; exact hy
      have m1 : ((y.toNat : Int) = 45) = True := eq_true (by rw [hm]; rfl)
      have m2 : ((y.toNat : Int) == 45) = true := by rw [hm]; rfl
      rw [hM, if_pos rfl]
      have hz1 : 1 ≤ s0.size := h0
      obtain ⟨T, hT⟩ : ∃ z, s0.extract 1 s0.size = z := ⟨_, rfl⟩
      rw [hT]
      by_cases h1 : T.size < 1
      · have h1T : ((T.size : Int) < 1) = True := eq_true (by omega)
        rw [if_pos (.inl h1)]
        refine OKat.of_body (rs := [2, 3]) Tryz.func60 rfl (by decide +kernel) rfl (by simp [Tryz.ntmps60]) ?_
        simp only [Tryz.ntmps60]
        repeat' first
          | apply AW.seq | apply AW.region | apply AW.ret | apply AW.block | apply AW.skip | apply AW.exit | apply AW.scope | apply AW.label | apply AWL.nil
          | ((first | (apply W.step cx_ok; decide) | (apply W.gS; rfl; decide) | apply AW.cond); (simp (disch := (first | omega | (simp only [List.length_append, List.length_map, List.length_cons, List.length_nil, List.length_take, List.length_drop]; omega))) only [push_cast, simprocAttr, takeM, dropM, leT, h0T, hy, m1, m2, hz1, Nat.le_refl, hT, Int.toNat_zero, Int.toNat_one, h1T] <;> rfl); all_goals try ((with_reducible intro hI); try first | (cases hI; done) | (simp only [INTS, not_true_eq_false] at hI; try first | (exfalso; omega) | (have hT : True := hI; clear hT hI))))
          | (apply W.append cx_ok; decide; rfl; rfl; rfl; decide; (iterate 3 (simp (disch := (first | omega | (simp only [List.length_append, List.length_map, List.length_cons, List.length_nil, List.length_take, List.length_drop]; omega))) only [push_cast, simprocAttr, takeM, dropM, leT, h0T, hy, m1, m2, hz1, Nat.le_refl, hT, Int.toNat_zero, Int.toNat_one, h1T] <;> rfl)); (first | (focus (simp; done)) | (intro c hc; obtain ⟨x, _, rfl⟩ := List.mem_map.1 hc; rfl)); ((first | rfl | simp (disch := omega) only [push_cast])); ((try dsimp only); (try simp only [List.length_map, List.length_append, List.length_cons, List.length_nil, List.length_take, List.length_drop]); omega); ((try dsimp only); (try simp only [List.length_map, List.length_append, List.length_cons, List.length_nil, List.length_take, List.length_drop]); omega))
          | ((first | apply W.ret2 | apply W.end2); (iterate 2 (try (simp (disch := (first | omega | (simp only [List.length_append, List.length_map, List.length_cons, List.length_nil, List.length_take, List.length_drop]; omega))) only [push_cast, simprocAttr, takeM, dropM, leT, h0T, hy, m1, m2, hz1, Nat.le_refl, hT, Int.toNat_zero, Int.toNat_one, h1T] <;> rfl))))

        all_goals (show _ = _; rfl)
      have h1F : ((T.size : Int) < 1) = False := eq_false (by omega)
      by_cases h2 : 10 < T.size
      · have h2T : (10 < (T.size : Int)) = True := eq_true (by omega)
        rw [if_pos (.inr h2)]
        refine OKat.of_body (rs := [2, 3]) Tryz.func60 rfl (by decide +kernel) rfl (by simp [Tryz.ntmps60]) ?_
        simp only [Tryz.ntmps60]
        repeat' first
          | apply AW.seq | apply AW.region | apply AW.ret | apply AW.block | apply AW.skip | apply AW.exit | apply AW.scope | apply AW.label | apply AWL.nil
          | ((first | (apply W.step cx_ok; decide) | (apply W.gS; rfl; decide) | apply AW.cond); (simp (disch := (first | omega | (simp only [List.length_append, List.length_map, List.length_cons, List.length_nil, List.length_take, List.length_drop]; omega))) only [push_cast, simprocAttr, takeM, dropM, leT, h0T, hy, m1, m2, hz1, Nat.le_refl, hT, Int.toNat_zero, Int.toNat_one, h1F, h2T] <;> rfl); all_goals try ((with_reducible intro hI); try first | (cases hI; done) | (simp only [INTS, not_true_eq_false] at hI; try first | (exfalso; omega) | (have hT : True := hI; clear hT hI))))
          | (apply W.append cx_ok; decide; rfl; rfl; rfl; decide; (iterate 3 (simp (disch := (first | omega | (simp only [List.length_append, List.length_map, List.length_cons, List.length_nil, List.length_take, List.length_drop]; omega))) only [push_cast, simprocAttr, takeM, dropM, leT, h0T, hy, m1, m2, hz1, Nat.le_refl, hT, Int.toNat_zero, Int.toNat_one, h1F, h2T] <;> rfl)); (first | (focus (simp; done)) | (intro c hc; obtain ⟨x, _, rfl⟩ := List.mem_map.1 hc; rfl)); ((first | rfl | simp (disch := omega) only [push_cast])); ((try dsimp only); (try simp only [List.length_map, List.length_append, List.length_cons, List.length_nil, List.length_take, List.length_drop]); omega); ((try dsimp only); (try simp only [List.length_map, List.length_append, List.length_cons, List.length_nil, List.length_take, List.length_drop]); omega))
          | ((first | apply W.ret2 | apply W.end2); (iterate 2 (try (simp (disch := (first | omega | (simp only [List.length_append, List.length_map, List.length_cons, List.length_nil, List.length_take, List.length_drop]; omega))) only [push_cast, simprocAttr, takeM, dropM, leT, h0T, hy, m1, m2, hz1, Nat.le_refl, hT, Int.toNat_zero, Int.toNat_one, h1F, h2T] <;> rfl))))

        all_goals (show _ = _; rfl)
      have h2F : (10 < (T.size : Int)) = False := eq_false (by omega)
      rw [if_neg (by omega)]
      obtain ⟨RR, hRR⟩ : ∃ z, (if (∀ c ∈ bl T, isDig c) then (if true = true then 0 - (valD 0 (bl T) : Int) else (valD 0 (bl T) : Int), true) else (0, false) : Int × Bool) = z := ⟨_, rfl⟩
      rw [hRR]
      refine OKat.of_body (rs := [2, 3]) Tryz.func60 rfl (by decide +kernel) rfl (by simp [Tryz.ntmps60]) ?_
      simp only [Tryz.ntmps60]
      repeat' first
        | apply AW.seq | apply AW.region | apply AW.ret | apply AW.block | apply AW.skip | apply AW.exit | apply AW.scope | apply AW.label | apply AWL.nil
        | ((first | (apply W.step cx_ok; decide) | (apply W.gS; rfl; decide) | apply AW.cond); (simp (disch := (first | omega | (simp only [List.length_append, List.length_map, List.length_cons, List.length_nil, List.length_take, List.length_drop]; omega))) only [push_cast, simprocAttr, takeM, dropM, leT, h0T, hy, m1, m2, hz1, Nat.le_refl, hT, Int.toNat_zero, Int.toNat_one, h1F, h2F] <;> rfl); all_goals try ((with_reducible intro hI); try first | (cases hI; done) | (simp only [INTS, not_true_eq_false] at hI; try first | (exfalso; omega) | (have hT : True := hI; clear hT hI))))
        | (apply W.append cx_ok; decide; rfl; rfl; rfl; decide; (iterate 3 (simp (disch := (first | omega | (simp only [List.length_append, List.length_map, List.length_cons, List.length_nil, List.length_take, List.length_drop]; omega))) only [push_cast, simprocAttr, takeM, dropM, leT, h0T, hy, m1, m2, hz1, Nat.le_refl, hT, Int.toNat_zero, Int.toNat_one, h1F, h2F] <;> rfl)); (first | (focus (simp; done)) | (intro c hc; obtain ⟨x, _, rfl⟩ := List.mem_map.1 hc; rfl)); ((first | rfl | simp (disch := omega) only [push_cast])); ((try dsimp only); (try simp only [List.length_map, List.length_append, List.length_cons, List.length_nil, List.length_take, List.length_drop]); omega); ((try dsimp only); (try simp only [List.length_map, List.length_append, List.length_cons, List.length_nil, List.length_take, List.length_drop]); omega))
        | ((first | apply W.ret2 | apply W.end2); (iterate 2 (try (simp (disch := (first | omega | (simp only [List.length_append, List.length_map, List.length_cons, List.length_nil, List.length_take, List.length_drop]; omega))) only [push_cast, simprocAttr, takeM, dropM, leT, h0T, hy, m1, m2, hz1, Nat.le_refl, hT, Int.toNat_zero, Int.toNat_one, h1F, h2F] <;> rfl))))

      refine AW.loop (fun n s => ∃ (i v : Nat), n = T.size - i ∧ (i ≤ T.size) ∧ (valD 0 ((bl T).take i) = v) ∧ (∀ c ∈ (bl T).take i, isDig c) ∧ s.tm 0 = at_ T ∧ s.tm 4 = ab true ∧ s.tm 5 = ai v ∧ s.tm 6 = ai i) (T.size) ⟨0, 0, rfl, (Nat.zero_le _), (by simp [valD]), (by simp), ?_, ?_, ?_, ?_⟩ ?_
      iterate 4 (first | (simp (disch := omega) only [push_cast, simprocAttr, h0T, hy, m1, m2, hz1, Nat.le_refl, hT, Int.toNat_zero, Int.toNat_one, h1F, h2F] <;> first | rfl | omega) | omega)
      rintro n1 s1 ⟨i1, v1, hn1, hp01, hp11, hp21, hS1⟩
      have hbl := bl_len T
      by_cases hi : i1 < T.size
      rotate_left
      · have hiF : ((i1 : Int) < (T.size : Int)) = False := eq_false (by omega)
        have hi1 : (bl T).take i1 = bl T := List.take_of_length_le (by rw [hbl]; omega)
        rw [hi1] at hp11 hp21
        rw [if_pos hp21, hp11] at hRR
        subst hRR
        have hvl := valD_lt (bl T) hp21
        have hv10 : v1 < 10000000000 := Nat.lt_of_lt_of_le (hp11 ▸ hvl) (Nat.le_trans (Nat.pow_le_pow_right (by decide) (show (bl T).length ≤ 10 by rw [hbl]; omega)) (Nat.le_refl _))
        repeat' first
          | apply AW.seq | apply AW.region | apply AW.ret | apply AW.block | apply AW.skip | apply AW.exit | apply AW.scope | apply AW.label | apply AWL.nil
          | ((first | (apply W.step cx_ok; decide) | (apply W.gS; rfl; decide) | apply AW.cond); (simp (disch := (first | omega | (simp only [List.length_append, List.length_map, List.length_cons, List.length_nil, List.length_take, List.length_drop]; omega))) only [push_cast, simprocAttr, takeM, dropM, leT, hS1, hiF] <;> rfl); all_goals try ((with_reducible intro hI); try first | (cases hI; done) | (simp only [INTS, not_true_eq_false] at hI; try first | (exfalso; omega) | (have hT : True := hI; clear hT hI))))
          | (apply W.append cx_ok; decide; rfl; rfl; rfl; decide; (iterate 3 (simp (disch := (first | omega | (simp only [List.length_append, List.length_map, List.length_cons, List.length_nil, List.length_take, List.length_drop]; omega))) only [push_cast, simprocAttr, takeM, dropM, leT, hS1, hiF] <;> rfl)); (first | (focus (simp; done)) | (intro c hc; obtain ⟨x, _, rfl⟩ := List.mem_map.1 hc; rfl)); ((first | rfl | simp (disch := omega) only [push_cast])); ((try dsimp only); (try simp only [List.length_map, List.length_append, List.length_cons, List.length_nil, List.length_take, List.length_drop]); omega); ((try dsimp only); (try simp only [List.length_map, List.length_append, List.length_cons, List.length_nil, List.length_take, List.length_drop]); omega))
          | ((first | apply W.ret2 | apply W.end2); (iterate 2 (try (simp (disch := (first | omega | (simp only [List.length_append, List.length_map, List.length_cons, List.length_nil, List.length_take, List.length_drop]; omega))) only [push_cast, simprocAttr, takeM, dropM, leT, hS1, hiF] <;> rfl))))

        all_goals (show _ = _; first | rfl | (simp; done) | simp)
      have hiT : ((i1 : Int) < (T.size : Int)) = True := eq_true (by omega)
      obtain ⟨x, hx⟩ : ∃ z, T.data.toList.getD i1 0 = z := ⟨_, rfl⟩
      have hil : i1 < (bl T).length := by rw [hbl]; exact hi
      have hts : (bl T).take (i1 + 1) = (bl T).take i1 ++ [x] := take_next hil hx
      have hmem : x ∈ bl T := mem_getD hil hx
      have hx256 : x.toNat < 256 := x.toNat_lt
      by_cases hlo : x.toNat < 48
      · have hloT : ((x.toNat : Int) < 48) = True := eq_true (by omega)
        rw [if_neg (fun h => by have := (h x hmem).1; omega)] at hRR
        subst hRR
        repeat' first
          | apply AW.seq | apply AW.region | apply AW.ret | apply AW.block | apply AW.skip | apply AW.exit | apply AW.scope | apply AW.label | apply AWL.nil
          | ((first | (apply W.step cx_ok; decide) | (apply W.gS; rfl; decide) | apply AW.cond); (simp (disch := (first | omega | (simp only [List.length_append, List.length_map, List.length_cons, List.length_nil, List.length_take, List.length_drop]; omega))) only [push_cast, simprocAttr, takeM, dropM, leT, hS1, hiT, hx, hloT] <;> rfl); all_goals try ((with_reducible intro hI); try first | (cases hI; done) | (simp only [INTS, not_true_eq_false] at hI; try first | (exfalso; omega) | (have hT : True := hI; clear hT hI))))
          | (apply W.append cx_ok; decide; rfl; rfl; rfl; decide; (iterate 3 (simp (disch := (first | omega | (simp only [List.length_append, List.length_map, List.length_cons, List.length_nil, List.length_take, List.length_drop]; omega))) only [push_cast, simprocAttr, takeM, dropM, leT, hS1, hiT, hx, hloT] <;> rfl)); (first | (focus (simp; done)) | (intro c hc; obtain ⟨x, _, rfl⟩ := List.mem_map.1 hc; rfl)); ((first | rfl | simp (disch := omega) only [push_cast])); ((try dsimp only); (try simp only [List.length_map, List.length_append, List.length_cons, List.length_nil, List.length_take, List.length_drop]); omega); ((try dsimp only); (try simp only [List.length_map, List.length_append, List.length_cons, List.length_nil, List.length_take, List.length_drop]); omega))
          | ((first | apply W.ret2 | apply W.end2); (iterate 2 (try (simp (disch := (first | omega | (simp only [List.length_append, List.length_map, List.length_cons, List.length_nil, List.length_take, List.length_drop]; omega))) only [push_cast, simprocAttr, takeM, dropM, leT, hS1, hiT, hx, hloT] <;> rfl))))

        all_goals (show _ = _; rfl)
      have hloF : ((x.toNat : Int) < 48) = False := eq_false (by omega)
      by_cases hhi : 57 < x.toNat
      · have hhiT : ((57 : Int) < (x.toNat : Int)) = True := eq_true (by omega)
        rw [if_neg (fun h => by have := (h x hmem).2; omega)] at hRR
        subst hRR
        repeat' first
          | apply AW.seq | apply AW.region | apply AW.ret | apply AW.block | apply AW.skip | apply AW.exit | apply AW.scope | apply AW.label | apply AWL.nil
          | ((first | (apply W.step cx_ok; decide) | (apply W.gS; rfl; decide) | apply AW.cond); (simp (disch := (first | omega | (simp only [List.length_append, List.length_map, List.length_cons, List.length_nil, List.length_take, List.length_drop]; omega))) only [push_cast, simprocAttr, takeM, dropM, leT, hS1, hiT, hx, hloF, hhiT] <;> rfl); all_goals try ((with_reducible intro hI); try first | (cases hI; done) | (simp only [INTS, not_true_eq_false] at hI; try first | (exfalso; omega) | (have hT : True := hI; clear hT hI))))
          | (apply W.append cx_ok; decide; rfl; rfl; rfl; decide; (iterate 3 (simp (disch := (first | omega | (simp only [List.length_append, List.length_map, List.length_cons, List.length_nil, List.length_take, List.length_drop]; omega))) only [push_cast, simprocAttr, takeM, dropM, leT, hS1, hiT, hx, hloF, hhiT] <;> rfl)); (first | (focus (simp; done)) | (intro c hc; obtain ⟨x, _, rfl⟩ := List.mem_map.1 hc; rfl)); ((first | rfl | simp (disch := omega) only [push_cast])); ((try dsimp only); (try simp only [List.length_map, List.length_append, List.length_cons, List.length_nil, List.length_take, List.length_drop]); omega); ((try dsimp only); (try simp only [List.length_map, List.length_append, List.length_cons, List.length_nil, List.length_take, List.length_drop]); omega))
          | ((first | apply W.ret2 | apply W.end2); (iterate 2 (try (simp (disch := (first | omega | (simp only [List.length_append, List.length_map, List.length_cons, List.length_nil, List.length_take, List.length_drop]; omega))) only [push_cast, simprocAttr, takeM, dropM, leT, hS1, hiT, hx, hloF, hhiT] <;> rfl))))

        all_goals (show _ = _; rfl)
      have hhiF : ((57 : Int) < (x.toNat : Int)) = False := eq_false (by omega)
      have hvl := valD_lt ((bl T).take i1) hp21
      have hv10 : v1 < 1000000000 := Nat.lt_of_lt_of_le (hp11 ▸ hvl) (Nat.le_trans (Nat.pow_le_pow_right (by decide) (show ((bl T).take i1).length ≤ 9 by rw [List.length_take]; omega)) (Nat.le_refl _))
      obtain ⟨V, hV⟩ : ∃ z, 10 * v1 + (x.toNat - 48) = z := ⟨_, rfl⟩
      have hVI : 10 * (v1 : Int) + ((x.toNat : Int) - 48) = (V : Int) := by omega
      have hw8 : IntKind.wrap .u8 ((x.toNat : Int) - 48) = (x.toNat : Int) - 48 := by simp [IntKind.wrap, IntKind.bits, IntKind.signed]; omega
      repeat' first
        | apply AW.seq | apply AW.region | apply AW.ret | apply AW.block | apply AW.skip | apply AW.exit | apply AW.scope | apply AW.label | apply AWL.nil
        | ((first | (apply W.step cx_ok; decide) | (apply W.gS; rfl; decide) | apply AW.cond); (simp (disch := (first | omega | (simp only [List.length_append, List.length_map, List.length_cons, List.length_nil, List.length_take, List.length_drop]; omega))) only [push_cast, simprocAttr, takeM, dropM, leT, hS1, hiT, hx, hloF, hhiF, hVI, hw8] <;> rfl); all_goals try ((with_reducible intro hI); try first | (cases hI; done) | (simp only [INTS, not_true_eq_false] at hI; try first | (exfalso; omega) | (have hT : True := hI; clear hT hI))))
        | (apply W.append cx_ok; decide; rfl; rfl; rfl; decide; (iterate 3 (simp (disch := (first | omega | (simp only [List.length_append, List.length_map, List.length_cons, List.length_nil, List.length_take, List.length_drop]; omega))) only [push_cast, simprocAttr, takeM, dropM, leT, hS1, hiT, hx, hloF, hhiF, hVI, hw8] <;> rfl)); (first | (focus (simp; done)) | (intro c hc; obtain ⟨x, _, rfl⟩ := List.mem_map.1 hc; rfl)); ((first | rfl | simp (disch := omega) only [push_cast])); ((try dsimp only); (try simp only [List.length_map, List.length_append, List.length_cons, List.length_nil, List.length_take, List.length_drop]); omega); ((try dsimp only); (try simp only [List.length_map, List.length_append, List.length_cons, List.length_nil, List.length_take, List.length_drop]); omega))
        | ((first | apply W.ret2 | apply W.end2); (iterate 2 (try (simp (disch := (first | omega | (simp only [List.length_append, List.length_map, List.length_cons, List.length_nil, List.length_take, List.length_drop]; omega))) only [push_cast, simprocAttr, takeM, dropM, leT, hS1, hiT, hx, hloF, hhiF, hVI, hw8] <;> rfl))))

      all_goals (refine ⟨T.size - (i1 + 1), ?_, i1 + 1, V, rfl, (by omega), (by rw [hts, valD_app, hp11]; exact hV), (by rw [hts]; intro c hc; rcases List.mem_append.1 hc with hc | hc; exact hp21 c hc; rw [List.mem_singleton.1 hc]; exact ⟨by omega, by omega⟩), ?_, ?_, ?_, ?_⟩; (omega); all_goals first | (simp (disch := omega) only [push_cast, simprocAttr, hS1, hiT, hx, hloF, hhiF, hVI, hw8] <;> first | rfl | omega) | omega)
    have hM : minusB s0 = false := by
      unfold minusB
      rw [decide_eq_true h0, Bool.true_and, decide_eq_false_iff_not]
      intro h; exact hm (by rw [← h]; exact hy.symm)
    have hmi : ¬ ((y.toNat : Int) = 45) := fun h => hm (UInt8.toNat_inj.1 (by show y.toNat = 45; omega))
    have m1 := eq_false hmi
    have m2 : ((y.toNat : Int) == 45) = false := by rw [beq_eq_false_iff_ne]; exact hmi
    rw [hM, if_neg Bool.false_ne_true]
    obtain ⟨T, hT⟩ : ∃ z, s0 = z := ⟨_, rfl⟩
    rw [hT] at h0T hy ⊢
    by_cases h1 : T.size < 1
    · have h1T : ((T.size : Int) < 1) = True := eq_true (by omega)
      rw [if_pos (.inl h1)]
      refine OKat.of_body (rs := [2, 3]) Tryz.func60 rfl (by decide +kernel) rfl (by simp [Tryz.ntmps60]) ?_
      simp only [Tryz.ntmps60]
      repeat' first
        | apply AW.seq | apply AW.region | apply AW.ret | apply AW.block | apply AW.skip | apply AW.exit | apply AW.scope | apply AW.label | apply AWL.nil
        | ((first | (apply W.step cx_ok; decide) | (apply W.gS; rfl; decide) | apply AW.cond); (simp (disch := (first | omega | (simp only [List.length_append, List.length_map, List.length_cons, List.length_nil, List.length_take, List.length_drop]; omega))) only [push_cast, simprocAttr, takeM, dropM, leT, h0T, hy, m1, m2, Int.toNat_zero, h1T] <;> rfl); all_goals try ((with_reducible intro hI); try first | (cases hI; done) | (simp only [INTS, not_true_eq_false] at hI; try first | (exfalso; omega) | (have hT : True := hI; clear hT hI))))
        | (apply W.append cx_ok; decide; rfl; rfl; rfl; decide; (iterate 3 (simp (disch := (first | omega | (simp only [List.length_append, List.length_map, List.length_cons, List.length_nil, List.length_take, List.length_drop]; omega))) only [push_cast, simprocAttr, takeM, dropM, leT, h0T, hy, m1, m2, Int.toNat_zero, h1T] <;> rfl)); (first | (focus (simp; done)) | (intro c hc; obtain ⟨x, _, rfl⟩ := List.mem_map.1 hc; rfl)); ((first | rfl | simp (disch := omega) only [push_cast])); ((try dsimp only); (try simp only [List.length_map, List.length_append, List.length_cons, List.length_nil, List.length_take, List.length_drop]); omega); ((try dsimp only); (try simp only [List.length_map, List.length_append, List.length_cons, List.length_nil, List.length_take, List.length_drop]); omega))
        | ((first | apply W.ret2 | apply W.end2); (iterate 2 (try (simp (disch := (first | omega | (simp only [List.length_append, List.length_map, List.length_cons, List.length_nil, List.length_take, List.length_drop]; omega))) only [push_cast, simprocAttr, takeM, dropM, leT, h0T, hy, m1, m2, Int.toNat_zero, h1T] <;> rfl))))

      all_goals (show _ = _; rfl)
    have h1F : ((T.size : Int) < 1) = False := eq_false (by omega)
    by_cases h2 : 10 < T.size
    · have h2T : (10 < (T.size : Int)) = True := eq_true (by omega)
      rw [if_pos (.inr h2)]
      refine OKat.of_body (rs := [2, 3]) Tryz.func60 rfl (by decide +kernel) rfl (by simp [Tryz.ntmps60]) ?_
      simp only [Tryz.ntmps60]
      repeat' first
        | apply AW.seq | apply AW.region | apply AW.ret | apply AW.block | apply AW.skip | apply AW.exit | apply AW.scope | apply AW.label | apply AWL.nil
        | ((first | (apply W.step cx_ok; decide) | (apply W.gS; rfl; decide) | apply AW.cond); (simp (disch := (first | omega | (simp only [List.length_append, List.length_map, List.length_cons, List.length_nil, List.length_take, List.length_drop]; omega))) only [push_cast, simprocAttr, takeM, dropM, leT, h0T, hy, m1, m2, Int.toNat_zero, h1F, h2T] <;> rfl); all_goals try ((with_reducible intro hI); try first | (cases hI; done) | (simp only [INTS, not_true_eq_false] at hI; try first | (exfalso; omega) | (have hT : True := hI; clear hT hI))))
        | (apply W.append cx_ok; decide; rfl; rfl; rfl; decide; (iterate 3 (simp (disch := (first | omega | (simp only [List.length_append, List.length_map, List.length_cons, List.length_nil, List.length_take, List.length_drop]; omega))) only [push_cast, simprocAttr, takeM, dropM, leT, h0T, hy, m1, m2, Int.toNat_zero, h1F, h2T] <;> rfl)); (first | (focus (simp; done)) | (intro c hc; obtain ⟨x, _, rfl⟩ := List.mem_map.1 hc; rfl)); ((first | rfl | simp (disch := omega) only [push_cast])); ((try dsimp only); (try simp only [List.length_map, List.length_append, List.length_cons, List.length_nil, List.length_take, List.length_drop]); omega); ((try dsimp only); (try simp only [List.length_map, List.length_append, List.length_cons, List.length_nil, List.length_take, List.length_drop]); omega))
        | ((first | apply W.ret2 | apply W.end2); (iterate 2 (try (simp (disch := (first | omega | (simp only [List.length_append, List.length_map, List.length_cons, List.length_nil, List.length_take, List.length_drop]; omega))) only [push_cast, simprocAttr, takeM, dropM, leT, h0T, hy, m1, m2, Int.toNat_zero, h1F, h2T] <;> rfl))))

      all_goals (show _ = _; rfl)
    have h2F : (10 < (T.size : Int)) = False := eq_false (by omega)
    rw [if_neg (by omega)]
    obtain ⟨RR, hRR⟩ : ∃ z, (if (∀ c ∈ bl T, isDig c) then (if false = true then 0 - (valD 0 (bl T) : Int) else (valD 0 (bl T) : Int), true) else (0, false) : Int × Bool) = z := ⟨_, rfl⟩
    rw [hRR]
    refine OKat.of_body (rs := [2, 3]) Tryz.func60 rfl (by decide +kernel) rfl (by simp [Tryz.ntmps60]) ?_
    simp only [Tryz.ntmps60]
    repeat' first
      | apply AW.seq | apply AW.region | apply AW.ret | apply AW.block | apply AW.skip | apply AW.exit | apply AW.scope | apply AW.label | apply AWL.nil
      | ((first | (apply W.step cx_ok; decide) | (apply W.gS; rfl; decide) | apply AW.cond); (simp (disch := (first | omega | (simp only [List.length_append, List.length_map, List.length_cons, List.length_nil, List.length_take, List.length_drop]; omega))) only [push_cast, simprocAttr, takeM, dropM, leT, h0T, hy, m1, m2, Int.toNat_zero, h1F, h2F] <;> rfl); all_goals try ((with_reducible intro hI); try first | (cases hI; done) | (simp only [INTS, not_true_eq_false] at hI; try first | (exfalso; omega) | (have hT : True := hI; clear hT hI))))
      | (apply W.append cx_ok; decide; rfl; rfl; rfl; decide; (iterate 3 (simp (disch := (first | omega | (simp only [List.length_append, List.length_map, List.length_cons, List.length_nil, List.length_take, List.length_drop]; omega))) only [push_cast, simprocAttr, takeM, dropM, leT, h0T, hy, m1, m2, Int.toNat_zero, h1F, h2F] <;> rfl)); (first | (focus (simp; done)) | (intro c hc; obtain ⟨x, _, rfl⟩ := List.mem_map.1 hc; rfl)); ((first | rfl | simp (disch := omega) only [push_cast])); ((try dsimp only); (try simp only [List.length_map, List.length_append, List.length_cons, List.length_nil, List.length_take, List.length_drop]); omega); ((try dsimp only); (try simp only [List.length_map, List.length_append, List.length_cons, List.length_nil, List.length_take, List.length_drop]); omega))
      | ((first | apply W.ret2 | apply W.end2); (iterate 2 (try (simp (disch := (first | omega | (simp only [List.length_append, List.length_map, List.length_cons, List.length_nil, List.length_take, List.length_drop]; omega))) only [push_cast, simprocAttr, takeM, dropM, leT, h0T, hy, m1, m2, Int.toNat_zero, h1F, h2F] <;> rfl))))

    refine AW.loop (fun n s => ∃ (i v : Nat), n = T.size - i ∧ (i ≤ T.size) ∧ (valD 0 ((bl T).take i) = v) ∧ (∀ c ∈ (bl T).take i, isDig c) ∧ s.tm 0 = at_ T ∧ s.tm 4 = ab false ∧ s.tm 5 = ai v ∧ s.tm 6 = ai i) (T.size) ⟨0, 0, rfl, (Nat.zero_le _), (by simp [valD]), (by simp), ?_, ?_, ?_, ?_⟩ ?_
    iterate 4 (first | (simp (disch := omega) only [push_cast, simprocAttr, h0T, hy, m1, m2, Int.toNat_zero, h1F, h2F] <;> first | rfl | omega) | omega)
    rintro n1 s1 ⟨i1, v1, hn1, hp01, hp11, hp21, hS1⟩
    have hbl := bl_len T
    by_cases hi : i1 < T.size
    rotate_left
    · have hiF : ((i1 : Int) < (T.size : Int)) = False := eq_false (by omega)
      have hi1 : (bl T).take i1 = bl T := List.take_of_length_le (by rw [hbl]; omega)
      rw [hi1] at hp11 hp21
      rw [if_pos hp21, hp11] at hRR
      subst hRR
      have hvl := valD_lt (bl T) hp21
      have hv10 : v1 < 10000000000 := Nat.lt_of_lt_of_le (hp11 ▸ hvl) (Nat.le_trans (Nat.pow_le_pow_right (by decide) (show (bl T).length ≤ 10 by rw [hbl]; omega)) (Nat.le_refl _))
      repeat' first
        | apply AW.seq | apply AW.region | apply AW.ret | apply AW.block | apply AW.skip | apply AW.exit | apply AW.scope | apply AW.label | apply AWL.nil
        | ((first | (apply W.step cx_ok; decide) | (apply W.gS; rfl; decide) | apply AW.cond); (simp (disch := (first | omega | (simp only [List.length_append, List.length_map, List.length_cons, List.length_nil, List.length_take, List.length_drop]; omega))) only [push_cast, simprocAttr, takeM, dropM, leT, hS1, hiF] <;> rfl); all_goals try ((with_reducible intro hI); try first | (cases hI; done) | (simp only [INTS, not_true_eq_false] at hI; try first | (exfalso; omega) | (have hT : True := hI; clear hT hI))))
        | (apply W.append cx_ok; decide; rfl; rfl; rfl; decide; (iterate 3 (simp (disch := (first | omega | (simp only [List.length_append, List.length_map, List.length_cons, List.length_nil, List.length_take, List.length_drop]; omega))) only [push_cast, simprocAttr, takeM, dropM, leT, hS1, hiF] <;> rfl)); (first | (focus (simp; done)) | (intro c hc; obtain ⟨x, _, rfl⟩ := List.mem_map.1 hc; rfl)); ((first | rfl | simp (disch := omega) only [push_cast])); ((try dsimp only); (try simp only [List.length_map, List.length_append, List.length_cons, List.length_nil, List.length_take, List.length_drop]); omega); ((try dsimp only); (try simp only [List.length_map, List.length_append, List.length_cons, List.length_nil, List.length_take, List.length_drop]); omega))
        | ((first | apply W.ret2 | apply W.end2); (iterate 2 (try (simp (disch := (first | omega | (simp only [List.length_append, List.length_map, List.length_cons, List.length_nil, List.length_take, List.length_drop]; omega))) only [push_cast, simprocAttr, takeM, dropM, leT, hS1, hiF] <;> rfl))))

      all_goals (show _ = _; first | rfl | (simp; done) | simp)
    have hiT : ((i1 : Int) < (T.size : Int)) = True := eq_true (by omega)
    obtain ⟨x, hx⟩ : ∃ z, T.data.toList.getD i1 0 = z := ⟨_, rfl⟩
    have hil : i1 < (bl T).length := by rw [hbl]; exact hi
    have hts : (bl T).take (i1 + 1) = (bl T).take i1 ++ [x] := take_next hil hx
    have hmem : x ∈ bl T := mem_getD hil hx
    have hx256 : x.toNat < 256 := x.toNat_lt
    by_cases hlo : x.toNat < 48
    · have hloT : ((x.toNat : Int) < 48) = True := eq_true (by omega)
      rw [if_neg (fun h => by have := (h x hmem).1; omega)] at hRR
      subst hRR
      repeat' first
        | apply AW.seq | apply AW.region | apply AW.ret | apply AW.block | apply AW.skip | apply AW.exit | apply AW.scope | apply AW.label | apply AWL.nil
        | ((first | (apply W.step cx_ok; decide) | (apply W.gS; rfl; decide) | apply AW.cond); (simp (disch := (first | omega | (simp only [List.length_append, List.length_map, List.length_cons, List.length_nil, List.length_take, List.length_drop]; omega))) only [push_cast, simprocAttr, takeM, dropM, leT, hS1, hiT, hx, hloT] <;> rfl); all_goals try ((with_reducible intro hI); try first | (cases hI; done) | (simp only [INTS, not_true_eq_false] at hI; try first | (exfalso; omega) | (have hT : True := hI; clear hT hI))))
        | (apply W.append cx_ok; decide; rfl; rfl; rfl; decide; (iterate 3 (simp (disch := (first | omega | (simp only [List.length_append, List.length_map, List.length_cons, List.length_nil, List.length_take, List.length_drop]; omega))) only [push_cast, simprocAttr, takeM, dropM, leT, hS1, hiT, hx, hloT] <;> rfl)); (first | (focus (simp; done)) | (intro c hc; obtain ⟨x, _, rfl⟩ := List.mem_map.1 hc; rfl)); ((first | rfl | simp (disch := omega) only [push_cast])); ((try dsimp only); (try simp only [List.length_map, List.length_append, List.length_cons, List.length_nil, List.length_take, List.length_drop]); omega); ((try dsimp only); (try simp only [List.length_map, List.length_append, List.length_cons, List.length_nil, List.length_take, List.length_drop]); omega))
        | ((first | apply W.ret2 | apply W.end2); (iterate 2 (try (simp (disch := (first | omega | (simp only [List.length_append, List.length_map, List.length_cons, List.length_nil, List.length_take, List.length_drop]; omega))) only [push_cast, simprocAttr, takeM, dropM, leT, hS1, hiT, hx, hloT] <;> rfl))))

      all_goals (show _ = _; rfl)
    have hloF : ((x.toNat : Int) < 48) = False := eq_false (by omega)
    by_cases hhi : 57 < x.toNat
    · have hhiT : ((57 : Int) < (x.toNat : Int)) = True := eq_true (by omega)
      rw [if_neg (fun h => by have := (h x hmem).2; omega)] at hRR
      subst hRR
      repeat' first
        | apply AW.seq | apply AW.region | apply AW.ret | apply AW.block | apply AW.skip | apply AW.exit | apply AW.scope | apply AW.label | apply AWL.nil
        | ((first | (apply W.step cx_ok; decide) | (apply W.gS; rfl; decide) | apply AW.cond); (simp (disch := (first | omega | (simp only [List.length_append, List.length_map, List.length_cons, List.length_nil, List.length_take, List.length_drop]; omega))) only [push_cast, simprocAttr, takeM, dropM, leT, hS1, hiT, hx, hloF, hhiT] <;> rfl); all_goals try ((with_reducible intro hI); try first | (cases hI; done) | (simp only [INTS, not_true_eq_false] at hI; try first | (exfalso; omega) | (have hT : True := hI; clear hT hI))))
        | (apply W.append cx_ok; decide; rfl; rfl; rfl; decide; (iterate 3 (simp (disch := (first | omega | (simp only [List.length_append, List.length_map, List.length_cons, List.length_nil, List.length_take, List.length_drop]; omega))) only [push_cast, simprocAttr, takeM, dropM, leT, hS1, hiT, hx, hloF, hhiT] <;> rfl)); (first | (focus (simp; done)) | (intro c hc; obtain ⟨x, _, rfl⟩ := List.mem_map.1 hc; rfl)); ((first | rfl | simp (disch := omega) only [push_cast])); ((try dsimp only); (try simp only [List.length_map, List.length_append, List.length_cons, List.length_nil, List.length_take, List.length_drop]); omega); ((try dsimp only); (try simp only [List.length_map, List.length_append, List.length_cons, List.length_nil, List.length_take, List.length_drop]); omega))
        | ((first | apply W.ret2 | apply W.end2); (iterate 2 (try (simp (disch := (first | omega | (simp only [List.length_append, List.length_map, List.length_cons, List.length_nil, List.length_take, List.length_drop]; omega))) only [push_cast, simprocAttr, takeM, dropM, leT, hS1, hiT, hx, hloF, hhiT] <;> rfl))))

      all_goals (show _ = _; rfl)
    have hhiF : ((57 : Int) < (x.toNat : Int)) = False := eq_false (by omega)
    have hvl := valD_lt ((bl T).take i1) hp21
    have hv10 : v1 < 1000000000 := Nat.lt_of_lt_of_le (hp11 ▸ hvl) (Nat.le_trans (Nat.pow_le_pow_right (by decide) (show ((bl T).take i1).length ≤ 9 by rw [List.length_take]; omega)) (Nat.le_refl _))
    obtain ⟨V, hV⟩ : ∃ z, 10 * v1 + (x.toNat - 48) = z := ⟨_, rfl⟩
    have hVI : 10 * (v1 : Int) + ((x.toNat : Int) - 48) = (V : Int) := by omega
    have hw8 : IntKind.wrap .u8 ((x.toNat : Int) - 48) = (x.toNat : Int) - 48 := by simp [IntKind.wrap, IntKind.bits, IntKind.signed]; omega
    repeat' first
      | apply AW.seq | apply AW.region | apply AW.ret | apply AW.block | apply AW.skip | apply AW.exit | apply AW.scope | apply AW.label | apply AWL.nil
      | ((first | (apply W.step cx_ok; decide) | (apply W.gS; rfl; decide) | apply AW.cond); (simp (disch := (first | omega | (simp only [List.length_append, List.length_map, List.length_cons, List.length_nil, List.length_take, List.length_drop]; omega))) only [push_cast, simprocAttr, takeM, dropM, leT, hS1, hiT, hx, hloF, hhiF, hVI, hw8] <;> rfl); all_goals try ((with_reducible intro hI); try first | (cases hI; done) | (simp only [INTS, not_true_eq_false] at hI; try first | (exfalso; omega) | (have hT : True := hI; clear hT hI))))
      | (apply W.append cx_ok; decide; rfl; rfl; rfl; decide; (iterate 3 (simp (disch := (first | omega | (simp only [List.length_append, List.length_map, List.length_cons, List.length_nil, List.length_take, List.length_drop]; omega))) only [push_cast, simprocAttr, takeM, dropM, leT, hS1, hiT, hx, hloF, hhiF, hVI, hw8] <;> rfl)); (first | (focus (simp; done)) | (intro c hc; obtain ⟨x, _, rfl⟩ := List.mem_map.1 hc; rfl)); ((first | rfl | simp (disch := omega) only [push_cast])); ((try dsimp only); (try simp only [List.length_map, List.length_append, List.length_cons, List.length_nil, List.length_take, List.length_drop]); omega); ((try dsimp only); (try simp only [List.length_map, List.length_append, List.length_cons, List.length_nil, List.length_take, List.length_drop]); omega))
      | ((first | apply W.ret2 | apply W.end2); (iterate 2 (try (simp (disch := (first | omega | (simp only [List.length_append, List.length_map, List.length_cons, List.length_nil, List.length_take, List.length_drop]; omega))) only [push_cast, simprocAttr, takeM, dropM, leT, hS1, hiT, hx, hloF, hhiF, hVI, hw8] <;> rfl))))

    all_goals (refine ⟨T.size - (i1 + 1), ?_, i1 + 1, V, rfl, (by omega), (by rw [hts, valD_app, hp11]; exact hV), (by rw [hts]; intro c hc; rcases List.mem_append.1 hc with hc | hc; exact hp21 c hc; rw [List.mem_singleton.1 hc]; exact ⟨by omega, by omega⟩), ?_, ?_, ?_, ?_⟩; (omega); all_goals first | (simp (disch := omega) only [push_cast, simprocAttr, hS1, hiT, hx, hloF, hhiF, hVI, hw8] <;> first | rfl | omega) | omega)
  · have h0F : ((0 : Int) < (s0.size : Int)) = False := eq_false (by omega)
    have hM : minusB s0 = false := by unfold minusB; rw [decide_eq_false h0, Bool.false_and]
    rw [hM, if_neg Bool.false_ne_true, if_pos (.inl (by omega))]
    have h1T : ((s0.size : Int) < 1) = True := eq_true (by omega)
    refine OKat.of_body (rs := [2, 3]) Tryz.func60 rfl (by decide +kernel) rfl (by simp [Tryz.ntmps60]) ?_
    simp only [Tryz.ntmps60]
    repeat' first
      | apply AW.seq | apply AW.region | apply AW.ret | apply AW.block | apply AW.skip | apply AW.exit | apply AW.scope | apply AW.label | apply AWL.nil
      | ((first | (apply W.step cx_ok; decide) | (apply W.gS; rfl; decide) | apply AW.cond); (simp (disch := (first | omega | (simp only [List.length_append, List.length_map, List.length_cons, List.length_nil, List.length_take, List.length_drop]; omega))) only [push_cast, simprocAttr, takeM, dropM, leT, h0F, h1T] <;> rfl); all_goals try ((with_reducible intro hI); try first | (cases hI; done) | (simp only [INTS, not_true_eq_false] at hI; try first | (exfalso; omega) | (have hT : True := hI; clear hT hI))))
      | (apply W.append cx_ok; decide; rfl; rfl; rfl; decide; (iterate 3 (simp (disch := (first | omega | (simp only [List.length_append, List.length_map, List.length_cons, List.length_nil, List.length_take, List.length_drop]; omega))) only [push_cast, simprocAttr, takeM, dropM, leT, h0F, h1T] <;> rfl)); (first | (focus (simp; done)) | (intro c hc; obtain ⟨x, _, rfl⟩ := List.mem_map.1 hc; rfl)); ((first | rfl | simp (disch := omega) only [push_cast])); ((try dsimp only); (try simp only [List.length_map, List.length_append, List.length_cons, List.length_nil, List.length_take, List.length_drop]); omega); ((try dsimp only); (try simp only [List.length_map, List.length_append, List.length_cons, List.length_nil, List.length_take, List.length_drop]); omega))
      | ((first | apply W.ret2 | apply W.end2); (iterate 2 (try (simp (disch := (first | omega | (simp only [List.length_append, List.length_map, List.length_cons, List.length_nil, List.length_take, List.length_drop]; omega))) only [push_cast, simprocAttr, takeM, dropM, leT, h0F, h1T] <;> rfl))))

    all_goals (show _ = _; rfl)
end Go.Proofs.Hz
