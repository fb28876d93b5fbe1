/-
  Contracts of functions, proved by going through their code. No conditions.
-/
import Derived.Test.YtkdiplkmcilkmaaDoorDan
import Derived.Test.YtkdiplkmcilkmaaDoorDao
import Derived.Test.YtkdiplkmcilkmaaDoorDaw
import Derived.Test.YtkdiplkmcilkmaaDoorDbb
import Derived.Test.YtkdiplkmcilkmaaDoorDtR
import Derived.Test.YtkdiplkmcilkmaaDoorDvI
set_option linter.unusedVariables false
set_option linter.unusedSimpArgs false
set_option maxHeartbeats 8000000
set_option maxRecDepth 10000
namespace Go.Proofs.Ds
open Go Go.Pg Go.Proofs
theorem law12_ok (hs : OKv cx 19 [] (ab true)) (h0 : SortKC0 Tryd.prog 130) (l : List Key) (m : Mark) (i : Ink) (wh tu : Int) : OKv cx 12 [lKey l, .agg (eMark m), .agg (eInk i), ai wh, ai tu] (ab true) := by
  have hf1 : ∀ m e, flatA (.tup [.agg (eMark m), .v e]) = true := fun _ _ => rfl
  have hf2 : ∀ x, flatA (.v x) = true := fun _ => rfl
  have hf3 : ∀ l x, flatA (.tup [.lst l, .v x]) = false := fun _ _ => rfl
  have hf4 : ∀ m, flatA (.agg (eMark m)) = true := fun _ => rfl
  have hf5 : ∀ x y, flatA (.tup [.v x, .v y]) = true := fun _ _ => rfl
  by_cases hl4 : 40 < (l.length : Int)
  · have yT := eq_true hl4
    refine OKat.of_body (rs := [10]) Tryd.func12 rfl (by decide +kernel) rfl (by simp [Tryd.ntmps12]) ?_
    simp only [Tryd.ntmps12]
    repeat' first
      | apply AW.seq | apply AW.region | apply AW.ret | apply AW.block | apply AW.skip | apply AW.exit | apply AW.scope | apply AW.label | apply AWL.nil | apply D.nil
      | refine W.draw cx_mixed (by decide +kernel) ?_
      | ((first | (apply W.step cx_ok; decide) | (apply D.step cx_ok; decide; decide) | apply W.store cx_ok | (apply W.gS; rfl; decide) | (apply D.gS; rfl; decide; decide) | apply AW.cond); (simp (disch := omega) only [push_cast, simprocAttr, natNe, List.mem_cons, List.not_mem_nil, TyD.isAgg, Nat.add_assoc, List.map_nil, List.length_nil, beq_self_eq_true, St.back, rowAt_aftJ, idsL, idsA, idsLL, List.cons_append, List.nil_append, List.append_nil, Option.map_some, Bool.and_self, Bool.and_true, Bool.true_and, Bool.false_and, Bool.and_false, Bool.not_true, Bool.not_false, Bool.false_eq_true, hf1, hf2, hf3, hf4, hf5, yT] <;> rfl); all_goals try ((with_reducible intro hI); try first | (cases hI; done) | (simp only [INTS, not_true_eq_false] at hI; try first | (exfalso; omega) | (have hT : True := hI; clear hT hI))))
      | ((first | (apply W.callv cx_ok; decide) | (apply D.callv cx_ok; decide; decide)); (iterate 2 (simp (disch := omega) only [push_cast, simprocAttr, natNe, List.mem_cons, List.not_mem_nil, TyD.isAgg, Nat.add_assoc, List.map_nil, List.length_nil, beq_self_eq_true, St.back, rowAt_aftJ, idsL, idsA, idsLL, List.cons_append, List.nil_append, List.append_nil, Option.map_some, Bool.and_self, Bool.and_true, Bool.true_and, Bool.false_and, Bool.and_false, Bool.not_true, Bool.not_false, Bool.false_eq_true, hf1, hf2, hf3, hf4, hf5, yT] <;> rfl)); (with_reducible first | exact hs); try first | rfl | (simp (disch := omega) only [push_cast, simprocAttr, natNe, List.mem_cons, List.not_mem_nil, TyD.isAgg, Nat.add_assoc, List.map_nil, List.length_nil, beq_self_eq_true, St.back, rowAt_aftJ, idsL, idsA, idsLL, List.cons_append, List.nil_append, List.append_nil, Option.map_some, Bool.and_self, Bool.and_true, Bool.true_and, Bool.false_and, Bool.and_false, Bool.not_true, Bool.not_false, Bool.false_eq_true, hf1, hf2, hf3, hf4, hf5, yT] <;> rfl))
      | ((first | apply W.ret1 | apply W.end1); (iterate 2 (try (simp (disch := omega) only [push_cast, simprocAttr, natNe, List.mem_cons, List.not_mem_nil, TyD.isAgg, Nat.add_assoc, List.map_nil, List.length_nil, beq_self_eq_true, St.back, rowAt_aftJ, idsL, idsA, idsLL, List.cons_append, List.nil_append, List.append_nil, Option.map_some, Bool.and_self, Bool.and_true, Bool.true_and, Bool.false_and, Bool.and_false, Bool.not_true, Bool.not_false, Bool.false_eq_true, hf1, hf2, hf3, hf4, hf5, yT] <;> rfl))))

    all_goals (show _ = _; rfl)
  have yF := eq_false hl4
  by_cases hv : bunchF l = true ∧ markV m = true ∧ inkV i = true
  rotate_left
  · have c0 := Makers_bad l m i hv
    refine OKat.of_body (rs := [10]) Tryd.func12 rfl (by decide +kernel) rfl (by simp [Tryd.ntmps12]) ?_
    simp only [Tryd.ntmps12]
    repeat' first
      | apply AW.seq | apply AW.region | apply AW.ret | apply AW.block | apply AW.skip | apply AW.exit | apply AW.scope | apply AW.label | apply AWL.nil | apply D.nil
      | refine W.draw cx_mixed (by decide +kernel) ?_
      | ((first | (apply W.step cx_ok; decide) | (apply D.step cx_ok; decide; decide) | apply W.store cx_ok | (apply W.gS; rfl; decide) | (apply D.gS; rfl; decide; decide) | apply AW.cond); (simp (disch := omega) only [push_cast, simprocAttr, natNe, List.mem_cons, List.not_mem_nil, TyD.isAgg, Nat.add_assoc, List.map_nil, List.length_nil, beq_self_eq_true, St.back, rowAt_aftJ, idsL, idsA, idsLL, List.cons_append, List.nil_append, List.append_nil, Option.map_some, Bool.and_self, Bool.and_true, Bool.true_and, Bool.false_and, Bool.and_false, Bool.not_true, Bool.not_false, Bool.false_eq_true, hf1, hf2, hf3, hf4, hf5, yF] <;> rfl); all_goals try ((with_reducible intro hI); try first | (cases hI; done) | (simp only [INTS, not_true_eq_false] at hI; try first | (exfalso; omega) | (have hT : True := hI; clear hT hI))))
      | ((first | (apply W.callv cx_ok; decide) | (apply D.callv cx_ok; decide; decide)); (iterate 2 (simp (disch := omega) only [push_cast, simprocAttr, natNe, List.mem_cons, List.not_mem_nil, TyD.isAgg, Nat.add_assoc, List.map_nil, List.length_nil, beq_self_eq_true, St.back, rowAt_aftJ, idsL, idsA, idsLL, List.cons_append, List.nil_append, List.append_nil, Option.map_some, Bool.and_self, Bool.and_true, Bool.true_and, Bool.false_and, Bool.and_false, Bool.not_true, Bool.not_false, Bool.false_eq_true, hf1, hf2, hf3, hf4, hf5, yF] <;> rfl)); (with_reducible first | exact hs | exact c0); try first | rfl | (simp (disch := omega) only [push_cast, simprocAttr, natNe, List.mem_cons, List.not_mem_nil, TyD.isAgg, Nat.add_assoc, List.map_nil, List.length_nil, beq_self_eq_true, St.back, rowAt_aftJ, idsL, idsA, idsLL, List.cons_append, List.nil_append, List.append_nil, Option.map_some, Bool.and_self, Bool.and_true, Bool.true_and, Bool.false_and, Bool.and_false, Bool.not_true, Bool.not_false, Bool.false_eq_true, hf1, hf2, hf3, hf4, hf5, yF] <;> rfl))
      | ((first | apply W.ret1 | apply W.end1); (iterate 2 (try (simp (disch := omega) only [push_cast, simprocAttr, natNe, List.mem_cons, List.not_mem_nil, TyD.isAgg, Nat.add_assoc, List.map_nil, List.length_nil, beq_self_eq_true, St.back, rowAt_aftJ, idsL, idsA, idsLL, List.cons_append, List.nil_append, List.append_nil, Option.map_some, Bool.and_self, Bool.and_true, Bool.true_and, Bool.false_and, Bool.and_false, Bool.not_true, Bool.not_false, Bool.false_eq_true, hf1, hf2, hf3, hf4, hf5, yF] <;> rfl))))

    all_goals (show _ = _; rfl)
  have c0 := Makers_good l m i hv
  obtain ⟨h1, h2, h3⟩ := hv
  have hmm := fun d => @makers_mem l m i d
  have hml := makers_len l m i
  generalize makersF l m i = MK at *
  by_cases hz : (MK.length : Int) = 0
  · have oT := eq_true hz
    have oB : ((MK.length : Int) == 0) = true := by simpa using hz
    refine OKat.of_body (rs := [10]) Tryd.func12 rfl (by decide +kernel) rfl (by simp [Tryd.ntmps12]) ?_
    simp only [Tryd.ntmps12]
    repeat' first
      | apply AW.seq | apply AW.region | apply AW.ret | apply AW.block | apply AW.skip | apply AW.exit | apply AW.scope | apply AW.label | apply AWL.nil | apply D.nil
      | refine W.draw cx_mixed (by decide +kernel) ?_
      | ((first | (apply W.step cx_ok; decide) | (apply D.step cx_ok; decide; decide) | apply W.store cx_ok | (apply W.gS; rfl; decide) | (apply D.gS; rfl; decide; decide) | apply AW.cond); (simp (disch := omega) only [push_cast, simprocAttr, natNe, List.mem_cons, List.not_mem_nil, TyD.isAgg, Nat.add_assoc, List.map_nil, List.length_nil, beq_self_eq_true, St.back, rowAt_aftJ, idsL, idsA, idsLL, List.cons_append, List.nil_append, List.append_nil, Option.map_some, Bool.and_self, Bool.and_true, Bool.true_and, Bool.false_and, Bool.and_false, Bool.not_true, Bool.not_false, Bool.false_eq_true, hf1, hf2, hf3, hf4, hf5, yF, oT, oB] <;> rfl); all_goals try ((with_reducible intro hI); try first | (cases hI; done) | (simp only [INTS, not_true_eq_false] at hI; try first | (exfalso; omega) | (have hT : True := hI; clear hT hI))))
      | ((first | (apply W.callv cx_ok; decide) | (apply D.callv cx_ok; decide; decide)); (iterate 2 (simp (disch := omega) only [push_cast, simprocAttr, natNe, List.mem_cons, List.not_mem_nil, TyD.isAgg, Nat.add_assoc, List.map_nil, List.length_nil, beq_self_eq_true, St.back, rowAt_aftJ, idsL, idsA, idsLL, List.cons_append, List.nil_append, List.append_nil, Option.map_some, Bool.and_self, Bool.and_true, Bool.true_and, Bool.false_and, Bool.and_false, Bool.not_true, Bool.not_false, Bool.false_eq_true, hf1, hf2, hf3, hf4, hf5, yF, oT, oB] <;> rfl)); (with_reducible first | exact hs | exact c0); try first | rfl | (simp (disch := omega) only [push_cast, simprocAttr, natNe, List.mem_cons, List.not_mem_nil, TyD.isAgg, Nat.add_assoc, List.map_nil, List.length_nil, beq_self_eq_true, St.back, rowAt_aftJ, idsL, idsA, idsLL, List.cons_append, List.nil_append, List.append_nil, Option.map_some, Bool.and_self, Bool.and_true, Bool.true_and, Bool.false_and, Bool.and_false, Bool.not_true, Bool.not_false, Bool.false_eq_true, hf1, hf2, hf3, hf4, hf5, yF, oT, oB] <;> rfl))
      | ((first | apply W.ret1 | apply W.end1); (iterate 2 (try (simp (disch := omega) only [push_cast, simprocAttr, natNe, List.mem_cons, List.not_mem_nil, TyD.isAgg, Nat.add_assoc, List.map_nil, List.length_nil, beq_self_eq_true, St.back, rowAt_aftJ, idsL, idsA, idsLL, List.cons_append, List.nil_append, List.append_nil, Option.map_some, Bool.and_self, Bool.and_true, Bool.true_and, Bool.false_and, Bool.and_false, Bool.not_true, Bool.not_false, Bool.false_eq_true, hf1, hf2, hf3, hf4, hf5, yF, oT, oB] <;> rfl))))

    all_goals (show _ = _; rfl)
  have oF := eq_false hz
  have oB : ((MK.length : Int) == 0) = false := by simpa using hz
  have c1 := Angle_ok wh
  have d1 := angF_bd wh
  obtain ⟨WW, hW⟩ : ∃ z, angF wh = z := ⟨_, rfl⟩
  rw [hW] at c1 d1
  have hrem : WW.tmod (MK.length : Int) = WW % (MK.length : Int) := Int.tmod_eq_emod_of_nonneg d1.1
  have hm1 := Int.emod_nonneg WW hz
  have hm2 := Int.emod_lt_of_pos WW (show 0 < (MK.length : Int) by omega)
  obtain ⟨jj, hjj⟩ : ∃ z : Nat, WW % (MK.length : Int) = z := ⟨(WW % (MK.length : Int)).toNat, by omega⟩
  rw [hjj] at hrem hm1 hm2
  have hjn : jj < MK.length := by omega
  have hx := get_map eInt MK jj default hjn
  have hg := getD_map eInt MK jj [] default hjn
  have hmem : MK.getD jj default ∈ MK := by
    rw [List.getD_eq_getElem?_getD, List.getElem?_eq_getElem hjn]; exact List.getElem_mem hjn
  generalize MK.getD jj default = id0 at *
  obtain ⟨k0, hk0, hmd0, hid0⟩ := hmm id0 hmem
  refine OKat.of_body (rs := [10]) Tryd.func12 rfl (by decide +kernel) rfl (by simp [Tryd.ntmps12]) ?_
  simp only [Tryd.ntmps12]
  repeat' first
    | apply AW.seq | apply AW.region | apply AW.ret | apply AW.block | apply AW.skip | apply AW.exit | apply AW.scope | apply AW.label | apply AWL.nil | apply D.nil
    | refine W.draw cx_mixed (by decide +kernel) ?_
    | ((first | (apply W.step cx_ok; decide) | (apply D.step cx_ok; decide; decide) | apply W.store cx_ok | (apply W.gS; rfl; decide) | (apply D.gS; rfl; decide; decide) | apply AW.cond); (simp (disch := omega) only [push_cast, simprocAttr, natNe, List.mem_cons, List.not_mem_nil, TyD.isAgg, Nat.add_assoc, List.map_nil, List.length_nil, beq_self_eq_true, St.back, rowAt_aftJ, idsL, idsA, idsLL, List.cons_append, List.nil_append, List.append_nil, Option.map_some, Bool.and_self, Bool.and_true, Bool.true_and, Bool.false_and, Bool.and_false, Bool.not_true, Bool.not_false, Bool.false_eq_true, hf1, hf2, hf3, hf4, hf5, yF, oF, oB, hrem, hm1, hm2, hjn, hx, hg] <;> rfl); all_goals try ((with_reducible intro hI); try first | (cases hI; done) | (simp only [INTS, not_true_eq_false] at hI; try first | (exfalso; omega) | (have hT : True := hI; clear hT hI))))
    | ((first | (apply W.callv cx_ok; decide) | (apply D.callv cx_ok; decide; decide)); (iterate 2 (simp (disch := omega) only [push_cast, simprocAttr, natNe, List.mem_cons, List.not_mem_nil, TyD.isAgg, Nat.add_assoc, List.map_nil, List.length_nil, beq_self_eq_true, St.back, rowAt_aftJ, idsL, idsA, idsLL, List.cons_append, List.nil_append, List.append_nil, Option.map_some, Bool.and_self, Bool.and_true, Bool.true_and, Bool.false_and, Bool.and_false, Bool.not_true, Bool.not_false, Bool.false_eq_true, hf1, hf2, hf3, hf4, hf5, yF, oF, oB, hrem, hm1, hm2, hjn, hx, hg] <;> rfl)); (with_reducible first | exact hs | exact c0 | exact c1); try first | rfl | (simp (disch := omega) only [push_cast, simprocAttr, natNe, List.mem_cons, List.not_mem_nil, TyD.isAgg, Nat.add_assoc, List.map_nil, List.length_nil, beq_self_eq_true, St.back, rowAt_aftJ, idsL, idsA, idsLL, List.cons_append, List.nil_append, List.append_nil, Option.map_some, Bool.and_self, Bool.and_true, Bool.true_and, Bool.false_and, Bool.and_false, Bool.not_true, Bool.not_false, Bool.false_eq_true, hf1, hf2, hf3, hf4, hf5, yF, oF, oB, hrem, hm1, hm2, hjn, hx, hg] <;> rfl))
    | ((first | apply W.ret1 | apply W.end1); (iterate 2 (try (simp (disch := omega) only [push_cast, simprocAttr, natNe, List.mem_cons, List.not_mem_nil, TyD.isAgg, Nat.add_assoc, List.map_nil, List.length_nil, beq_self_eq_true, St.back, rowAt_aftJ, idsL, idsA, idsLL, List.cons_append, List.nil_append, List.append_nil, Option.map_some, Bool.and_self, Bool.and_true, Bool.true_and, Bool.false_and, Bool.and_false, Bool.not_true, Bool.not_false, Bool.false_eq_true, hf1, hf2, hf3, hf4, hf5, yF, oF, oB, hrem, hm1, hm2, hjn, hx, hg] <;> rfl))))

  refine AW.loop (fun n s => ∃ (k : Nat) (KK : Key), n = l.length - k ∧ (k ≤ l.length) ∧ ((KK ∈ l ∧ KK.id = id0) ∨ ∀ j, j < k → (l.getD j default).id ≠ id0) ∧ 3 ≤ s.nx ∧ s.tm 0 = lKey l ∧ s.tm 4 = ai tu ∧ s.tm 6 = .ptr 0 0 0 1 ∧ s.tm 7 = .ptr 1 0 0 1 ∧ s.tm 13 = ai id0 ∧ s.tm 14 = .ptr 2 0 0 1 ∧ s.tm 15 = ai k ∧ Pg.rowAt s.H (0) = some ({ k := 5, es := [eMark m], ty := 42 }) ∧ Pg.rowAt s.H (1) = some ({ k := 3, es := [eInk i], ty := 48 }) ∧ Pg.rowAt s.H (2) = some ({ k := 3, es := [eKey KK], ty := 44 })) (l.length) ⟨0, (⟨0, 0, 0⟩ : Key), rfl, (Nat.zero_le _), (.inr fun j hj => by omega), ?_, ?_, ?_, ?_, ?_, ?_, ?_, ?_, ?_, ?_, ?_⟩ ?_
  iterate 11 (first | (simp (disch := omega) only [push_cast, simprocAttr, natNe, List.mem_cons, List.not_mem_nil, TyD.isAgg, Nat.add_assoc, List.map_nil, List.length_nil, beq_self_eq_true, St.back, rowAt_aftJ, idsL, idsA, idsLL, List.cons_append, List.nil_append, List.append_nil, Option.map_some, Bool.and_self, Bool.and_true, Bool.true_and, Bool.false_and, Bool.and_false, Bool.not_true, Bool.not_false, Bool.false_eq_true, hf1, hf2, hf3, hf4, hf5, yF, oF, hrem, hm1, hm2, hjn, hx, hg, oB] <;> first | rfl | omega) | omega)
  rintro n1 s1 ⟨k1, KK1, hn1, hp01, hp11, hnl1, hS1⟩
  have hZ1 : (0 : Nat) ≠ s1.nx ∧ s1.nx ≠ (0 : Nat) ∧ (1 : Nat) ≠ s1.nx ∧ s1.nx ≠ (1 : Nat) ∧ (2 : Nat) ≠ s1.nx ∧ s1.nx ≠ (2 : Nat) := by omega
  by_cases hk9 : k1 < l.length
  · have hk : ((k1 : Int) < (l.length : Int)) = True := eq_true (by omega)
    have kx := get_map eKey l k1 default hk9
    have kg := getD_map eKey l k1 [] default hk9
    have hkm : l.getD k1 default ∈ l := by
      rw [List.getD_eq_getElem?_getD, List.getElem?_eq_getElem hk9]; exact List.getElem_mem hk9
    obtain ⟨x, hX⟩ : ∃ z, l.getD k1 default = z := ⟨_, rfl⟩
    rw [hX] at kx kg hkm
    by_cases hq : x.id = id0
    · have qT := eq_true hq
      have qB : (x.id == id0) = true := by simpa using hq
      repeat' first
        | apply AW.seq | apply AW.region | apply AW.ret | apply AW.block | apply AW.skip | apply AW.exit | apply AW.scope | apply AW.label | apply AWL.nil | apply D.nil
        | refine W.draw cx_mixed (by decide +kernel) ?_
        | ((first | (apply W.step cx_ok; decide) | (apply D.step cx_ok; decide; decide) | apply W.store cx_ok | (apply W.gS; rfl; decide) | (apply D.gS; rfl; decide; decide) | apply AW.cond); (simp (disch := omega) only [push_cast, simprocAttr, hS1, hZ1, natNe, List.mem_cons, List.not_mem_nil, TyD.isAgg, Nat.add_assoc, List.map_nil, List.length_nil, beq_self_eq_true, St.back, rowAt_aftJ, idsL, idsA, idsLL, List.cons_append, List.nil_append, List.append_nil, Option.map_some, Bool.and_self, Bool.and_true, Bool.true_and, Bool.false_and, Bool.and_false, Bool.not_true, Bool.not_false, Bool.false_eq_true, hf1, hf2, hf3, hf4, hf5, hk, hk9, kx, kg, qT, qB] <;> rfl); all_goals try ((with_reducible intro hI); try first | (cases hI; done) | (simp only [INTS, not_true_eq_false] at hI; try first | (exfalso; omega) | (have hT : True := hI; clear hT hI))))
        | ((first | apply W.ret1 | apply W.end1); (iterate 2 (try (simp (disch := omega) only [push_cast, simprocAttr, hS1, hZ1, natNe, List.mem_cons, List.not_mem_nil, TyD.isAgg, Nat.add_assoc, List.map_nil, List.length_nil, beq_self_eq_true, St.back, rowAt_aftJ, idsL, idsA, idsLL, List.cons_append, List.nil_append, List.append_nil, Option.map_some, Bool.and_self, Bool.and_true, Bool.true_and, Bool.false_and, Bool.and_false, Bool.not_true, Bool.not_false, Bool.false_eq_true, hf1, hf2, hf3, hf4, hf5, hk, hk9, kx, kg, qT, qB] <;> rfl))))

      all_goals (refine ⟨(l.length - (k1 + 1)), ?_, k1 + 1, x, rfl, (by omega), (.inl ⟨hkm, hq⟩), ?_, ?_, ?_, ?_, ?_, ?_, ?_, ?_, ?_, ?_, ?_⟩; (omega); all_goals first | (simp (disch := omega) only [push_cast, simprocAttr, hS1, hZ1, hk, hk9, kx, kg, qT, qB, natNe, List.mem_cons, List.not_mem_nil, TyD.isAgg, Nat.add_assoc, List.map_nil, List.length_nil, beq_self_eq_true, St.back, rowAt_aftJ, idsL, idsA, idsLL, List.cons_append, List.nil_append, List.append_nil, Option.map_some, Bool.and_self, Bool.and_true, Bool.true_and, Bool.false_and, Bool.and_false, Bool.not_true, Bool.not_false, Bool.false_eq_true, hf1, hf2, hf3, hf4, hf5] <;> first | rfl | omega) | omega)
    · have qF := eq_false hq
      have qB : (x.id == id0) = false := by simpa using hq
      repeat' first
        | apply AW.seq | apply AW.region | apply AW.ret | apply AW.block | apply AW.skip | apply AW.exit | apply AW.scope | apply AW.label | apply AWL.nil | apply D.nil
        | refine W.draw cx_mixed (by decide +kernel) ?_
        | ((first | (apply W.step cx_ok; decide) | (apply D.step cx_ok; decide; decide) | apply W.store cx_ok | (apply W.gS; rfl; decide) | (apply D.gS; rfl; decide; decide) | apply AW.cond); (simp (disch := omega) only [push_cast, simprocAttr, hS1, hZ1, natNe, List.mem_cons, List.not_mem_nil, TyD.isAgg, Nat.add_assoc, List.map_nil, List.length_nil, beq_self_eq_true, St.back, rowAt_aftJ, idsL, idsA, idsLL, List.cons_append, List.nil_append, List.append_nil, Option.map_some, Bool.and_self, Bool.and_true, Bool.true_and, Bool.false_and, Bool.and_false, Bool.not_true, Bool.not_false, Bool.false_eq_true, hf1, hf2, hf3, hf4, hf5, hk, hk9, kx, kg, qF, qB] <;> rfl); all_goals try ((with_reducible intro hI); try first | (cases hI; done) | (simp only [INTS, not_true_eq_false] at hI; try first | (exfalso; omega) | (have hT : True := hI; clear hT hI))))
        | ((first | apply W.ret1 | apply W.end1); (iterate 2 (try (simp (disch := omega) only [push_cast, simprocAttr, hS1, hZ1, natNe, List.mem_cons, List.not_mem_nil, TyD.isAgg, Nat.add_assoc, List.map_nil, List.length_nil, beq_self_eq_true, St.back, rowAt_aftJ, idsL, idsA, idsLL, List.cons_append, List.nil_append, List.append_nil, Option.map_some, Bool.and_self, Bool.and_true, Bool.true_and, Bool.false_and, Bool.and_false, Bool.not_true, Bool.not_false, Bool.false_eq_true, hf1, hf2, hf3, hf4, hf5, hk, hk9, kx, kg, qF, qB] <;> rfl))))

      all_goals (refine ⟨(l.length - (k1 + 1)), ?_, k1 + 1, KK1, rfl, (by omega), (hp11.imp _root_.id fun hh j hj => by rcases Nat.lt_or_ge j k1 with g | g; exact hh j g; rw [show j = k1 by omega, hX]; exact hq), ?_, ?_, ?_, ?_, ?_, ?_, ?_, ?_, ?_, ?_, ?_⟩; (omega); all_goals first | (simp (disch := omega) only [push_cast, simprocAttr, hS1, hZ1, hk, hk9, kx, kg, qF, qB, natNe, List.mem_cons, List.not_mem_nil, TyD.isAgg, Nat.add_assoc, List.map_nil, List.length_nil, beq_self_eq_true, St.back, rowAt_aftJ, idsL, idsA, idsLL, List.cons_append, List.nil_append, List.append_nil, Option.map_some, Bool.and_self, Bool.and_true, Bool.true_and, Bool.false_and, Bool.and_false, Bool.not_true, Bool.not_false, Bool.false_eq_true, hf1, hf2, hf3, hf4, hf5] <;> first | rfl | omega) | omega)
  have hk : ((k1 : Int) < (l.length : Int)) = False := eq_false (by omega)
  have hfound : KK1 ∈ l ∧ KK1.id = id0 := by
    rcases hp11 with g | g
    · exact g
    · exfalso
      obtain ⟨j, hj, e⟩ := List.mem_iff_getElem.1 hk0
      refine g j (by omega) ?_
      rw [List.getD_eq_getElem?_getD, List.getElem?_eq_getElem hj]
      show (l[j]).id = id0
      rw [e]; exact hid0
  have hKk : KK1 = k0 := bunch_inj h1 hfound.1 hk0 (by rw [hfound.2, hid0])
  have hkv := bunch_key h1 KK1 hfound.1
  have hmd : madeF KK1 m i = true := by rw [hKk]; exact hmd0
  clear hp11 hKk hfound hmd0 hid0 hk0 hmem hmm
  obtain ⟨KK, hKK⟩ : ∃ z, KK1 = z := ⟨_, rfl⟩
  subst hKK
  generalize KK1 = KK at *
  have c2 := Angles_good KK m i hkv h2 h3
  rw [if_pos hmd] at c2
  obtain ⟨_, _, k3, k4⟩ := keyV_iff.1 hkv
  obtain ⟨va, _, ms, mb, _⟩ := markV_iff.1 h2
  obtain ⟨i1, i2, i3, i4⟩ := inkV_iff.1 h3
  have hal : allowI KK.pat.toNat m.seen.toNat m.blank.toNat i = true := by
    unfold madeF at hmd
    rw [Bool.and_eq_true] at hmd
    exact hmd.2
  have vw := wide_valid va i3 (n := i.slip)
  have hns : ∀ a0, hasF (wideF m.arc i.slip) a0 = true → _ := fun a0 h => near_shift va i3 h
  obtain ⟨w, hw⟩ : ∃ z, wideF m.arc i.slip = z := ⟨_, rfl⟩
  rw [hw] at c2 vw hns
  obtain ⟨v1, v2, v3, v4, v5⟩ := validA_iff.1 vw
  have cw : checkL [w] = 0 := by unfold checkL; rw [if_neg (by simp), if_pos (by simp [vw])]
  have c3 := Size_good h0 [w] cw
  have hsz := size_one vw
  generalize sumW (spansS [w]) = SW at *
  have c2' : OKv cx 71 [.agg (eKey KK), .agg (eMark m), .agg (eInk i)] (.tup [.lst [eArc w], ai 0]) := c2
  have c3' : OKv cx 32 [.lst [eArc w]] (.tup [ai SW, ai 0]) := c3
  have swF : (SW = 0) = False := eq_false (by omega)
  have swB : (SW == 0) = false := by rw [beq_eq_false_iff_ne]; omega
  have c4 := Angle_ok tu
  have d4 := angF_bd tu
  obtain ⟨TT, hT⟩ : ∃ z, angF tu = z := ⟨_, rfl⟩
  rw [hT] at c4 d4
  have hrt : TT.tmod (w.len + 1) = TT % (w.len + 1) := Int.tmod_eq_emod_of_nonneg d4.1
  have ht1 := Int.emod_nonneg TT (show w.len + 1 ≠ 0 by omega)
  have ht2 := Int.emod_lt_of_pos TT (show 0 < w.len + 1 by omega)
  obtain ⟨RR, hRR⟩ : ∃ z, TT % (w.len + 1) = z := ⟨_, rfl⟩
  rw [hRR] at hrt ht1 ht2
  obtain ⟨at0, hat⟩ : ∃ z, w.from_ + RR = z := ⟨_, rfl⟩
  have hwn : ((w.len + 1) = 0) = False := eq_false (by omega)
  have hhas : hasF w at0 = true := by
    unfold hasF
    rw [vw, Bool.true_and, decide_eq_true_eq]
    unfold aheadF angF
    omega
  obtain ⟨dd, hdd, hdh⟩ := hns at0 hhas
  have e2 : (KK.pat.toNat : Int) = KK.pat := Int.toNat_of_nonneg (by omega)
  have e3 : (m.seen.toNat : Int) = m.seen := Int.toNat_of_nonneg ms.1
  have e4 : (m.blank.toNat : Int) = m.blank := Int.toNat_of_nonneg mb.1
  have b1 := andI (p := KK.pat.toNat) (q := m.blank.toNat) (by omega) (by omega)
  have b2 := andNotI (p := m.seen.toNat) (q := KK.pat.toNat) (by omega) (by omega)
  have bl1 := and_lt (p := KK.pat.toNat) (q := m.blank.toNat) (by omega)
  have bl2 := drop_lt (p := m.seen.toNat) (q := KK.pat.toNat) (by omega)
  rw [e2, e4] at b1
  rw [e2, e3] at b2
  repeat' first
    | apply AW.seq | apply AW.region | apply AW.ret | apply AW.block | apply AW.skip | apply AW.exit | apply AW.scope | apply AW.label | apply AWL.nil | apply D.nil
    | refine W.draw cx_mixed (by decide +kernel) ?_
    | ((first | (apply W.step cx_ok; decide) | (apply D.step cx_ok; decide; decide) | apply W.store cx_ok | (apply W.gS; rfl; decide) | (apply D.gS; rfl; decide; decide) | apply AW.cond); (simp (disch := omega) only [push_cast, simprocAttr, hS1, hZ1, natNe, List.mem_cons, List.not_mem_nil, TyD.isAgg, Nat.add_assoc, List.map_nil, List.length_nil, beq_self_eq_true, St.back, rowAt_aftJ, idsL, idsA, idsLL, List.cons_append, List.nil_append, List.append_nil, Option.map_some, Bool.and_self, Bool.and_true, Bool.true_and, Bool.false_and, Bool.and_false, Bool.not_true, Bool.not_false, Bool.false_eq_true, hf1, hf2, hf3, hf4, hf5, hk, swF, swB, hrt, ht1, ht2, hat, hwn, List.map_cons, List.length_cons, List.getD_cons_zero, List.getElem?_cons_zero] <;> rfl); all_goals try ((with_reducible intro hI); try first | (cases hI; done) | (simp only [INTS, not_true_eq_false] at hI; try first | (exfalso; omega) | (have hT : True := hI; clear hT hI))))
    | ((first | (apply W.callv cx_ok; decide) | (apply D.callv cx_ok; decide; decide)); (iterate 2 (simp (disch := omega) only [push_cast, simprocAttr, hS1, hZ1, natNe, List.mem_cons, List.not_mem_nil, TyD.isAgg, Nat.add_assoc, List.map_nil, List.length_nil, beq_self_eq_true, St.back, rowAt_aftJ, idsL, idsA, idsLL, List.cons_append, List.nil_append, List.append_nil, Option.map_some, Bool.and_self, Bool.and_true, Bool.true_and, Bool.false_and, Bool.and_false, Bool.not_true, Bool.not_false, Bool.false_eq_true, hf1, hf2, hf3, hf4, hf5, hk, swF, swB, hrt, ht1, ht2, hat, hwn, List.map_cons, List.length_cons, List.getD_cons_zero, List.getElem?_cons_zero] <;> rfl)); (with_reducible first | exact c2' | exact c3' | exact c4); try first | rfl | (simp (disch := omega) only [push_cast, simprocAttr, hS1, hZ1, natNe, List.mem_cons, List.not_mem_nil, TyD.isAgg, Nat.add_assoc, List.map_nil, List.length_nil, beq_self_eq_true, St.back, rowAt_aftJ, idsL, idsA, idsLL, List.cons_append, List.nil_append, List.append_nil, Option.map_some, Bool.and_self, Bool.and_true, Bool.true_and, Bool.false_and, Bool.and_false, Bool.not_true, Bool.not_false, Bool.false_eq_true, hf1, hf2, hf3, hf4, hf5, hk, swF, swB, hrt, ht1, ht2, hat, hwn, List.map_cons, List.length_cons, List.getD_cons_zero, List.getElem?_cons_zero] <;> rfl))
    | ((first | apply W.ret1 | apply W.end1); (iterate 2 (try (simp (disch := omega) only [push_cast, simprocAttr, hS1, hZ1, natNe, List.mem_cons, List.not_mem_nil, TyD.isAgg, Nat.add_assoc, List.map_nil, List.length_nil, beq_self_eq_true, St.back, rowAt_aftJ, idsL, idsA, idsLL, List.cons_append, List.nil_append, List.append_nil, Option.map_some, Bool.and_self, Bool.and_true, Bool.true_and, Bool.false_and, Bool.and_false, Bool.not_true, Bool.not_false, Bool.false_eq_true, hf1, hf2, hf3, hf4, hf5, hk, swF, swB, hrt, ht1, ht2, hat, hwn, List.map_cons, List.length_cons, List.getD_cons_zero, List.getElem?_cons_zero] <;> rfl))))

  refine AW.loop (fun n s => ∃ (q : Nat), n = (i.slip.toNat + 1) - q ∧ (q ≤ dd) ∧ 3 ≤ s.nx ∧ s.tm 6 = .ptr 0 0 0 1 ∧ s.tm 7 = .ptr 1 0 0 1 ∧ s.tm 14 = .ptr 2 0 0 1 ∧ s.tm 20 = ai at0 ∧ s.tm 21 = ai 0 ∧ s.tm 22 = ai q ∧ Pg.rowAt s.H (0) = some ({ k := 5, es := [eMark m], ty := 42 }) ∧ Pg.rowAt s.H (1) = some ({ k := 3, es := [eInk i], ty := 48 }) ∧ Pg.rowAt s.H (2) = some ({ k := 3, es := [eKey KK], ty := 44 })) ((i.slip.toNat + 1)) ⟨0, rfl, (Nat.zero_le _), ?_, ?_, ?_, ?_, ?_, ?_, ?_, ?_, ?_, ?_⟩ ?_
  iterate 10 (first | (simp (disch := omega) only [push_cast, simprocAttr, hS1, hZ1, natNe, List.mem_cons, List.not_mem_nil, TyD.isAgg, Nat.add_assoc, List.map_nil, List.length_nil, beq_self_eq_true, St.back, rowAt_aftJ, idsL, idsA, idsLL, List.cons_append, List.nil_append, List.append_nil, Option.map_some, Bool.and_self, Bool.and_true, Bool.true_and, Bool.false_and, Bool.and_false, Bool.not_true, Bool.not_false, Bool.false_eq_true, hf1, hf2, hf3, hf4, hf5, hk, swF, swB, hrt, ht1, ht2, hat, hwn, List.map_cons, List.length_cons, List.getD_cons_zero, List.getElem?_cons_zero] <;> first | rfl | omega) | omega)
  rintro n2 s2 ⟨q2, hn2, hp02, hnl2, hS2⟩
  have hZ2 : (0 : Nat) ≠ s2.nx ∧ s2.nx ≠ (0 : Nat) ∧ (1 : Nat) ≠ s2.nx ∧ s2.nx ≠ (1 : Nat) ∧ (2 : Nat) ≠ s2.nx ∧ s2.nx ≠ (2 : Nat) := by omega
  have hq : ((q2 : Int) ≤ i.slip) = True := eq_true (by omega)
  have c5 := Has_ok m.arc (at0 + q2)
  have c6 := Has_ok m.arc (at0 - q2)
  cases hA : hasF m.arc (at0 + q2) with
  | true =>
    rw [hA] at c5
    have hsh := hA
    have st := strikes_back (p := KK.pat.toNat) (S := m.seen.toNat) (B := m.blank.toNat) (sh := (q2 : Int)) (i := i) hal (by omega)
    have t1 : OKv cx 35 [.agg (eKey KK), ai at0, .agg (eBlow ⟨((KK.pat.toNat &&& m.blank.toNat : Nat) : Int), ((dropB m.seen.toNat KK.pat.toNat : Nat) : Int), (q2 : Int)⟩), .agg (eInk i)] (.tup [.agg (eMark (backM KK m at0 ((q2 : Int)))), ai 0]) :=
      Strike_good KK at0 ⟨((KK.pat.toNat &&& m.blank.toNat : Nat) : Int), ((dropB m.seen.toNat KK.pat.toNat : Nat) : Int), (q2 : Int)⟩ i hkv h3 (by dsimp only; omega) (by dsimp only; omega) 0 _ (.inl ⟨by simp only [Int.toNat_natCast]; exact st, rfl, by simp only [Int.toNat_natCast]; rfl⟩)
    have t2 := Sharpen_good h0 m (backM KK m at0 ((q2 : Int))) ⟨h2, back_mark (i := i) hkv h2 at0 _⟩
    rw [back_sharp hkv h2 hmd hsh] at t2
    generalize backM KK m at0 ((q2 : Int)) = BM at *
    repeat' first
      | ((first | (apply W.eeN cx_ok; decide) | (apply D.eeN cx_ok; decide; decide)); rfl; rfl; exact E42; (iterate 2 (simp (disch := omega) only [push_cast, simprocAttr, hS2, hZ2, natNe, List.mem_cons, List.not_mem_nil, TyD.isAgg, Nat.add_assoc, List.map_nil, List.length_nil, beq_self_eq_true, St.back, rowAt_aftJ, idsL, idsA, idsLL, List.cons_append, List.nil_append, List.append_nil, Option.map_some, Bool.and_self, Bool.and_true, Bool.true_and, Bool.false_and, Bool.and_false, Bool.not_true, Bool.not_false, Bool.false_eq_true, hf1, hf2, hf3, hf4, hf5, hq, b1, b2] <;> rfl)); (simp (disch := omega) only [push_cast, simprocAttr, hS2, hZ2, natNe, List.mem_cons, List.not_mem_nil, TyD.isAgg, Nat.add_assoc, List.map_nil, List.length_nil, beq_self_eq_true, St.back, rowAt_aftJ, idsL, idsA, idsLL, List.cons_append, List.nil_append, List.append_nil, Option.map_some, Bool.and_self, Bool.and_true, Bool.true_and, Bool.false_and, Bool.and_false, Bool.not_true, Bool.not_false, Bool.false_eq_true, hf1, hf2, hf3, hf4, hf5, hq, b1, b2, cellsEqN, cellEqN] <;> rfl))
      | apply AW.seq | apply AW.region | apply AW.ret | apply AW.block | apply AW.skip | apply AW.exit | apply AW.scope | apply AW.label | apply AWL.nil | apply D.nil
      | refine W.draw cx_mixed (by decide +kernel) ?_
      | ((first | (apply W.step cx_ok; decide) | (apply D.step cx_ok; decide; decide) | apply W.store cx_ok | (apply W.gS; rfl; decide) | (apply D.gS; rfl; decide; decide) | apply AW.cond); (simp (disch := omega) only [push_cast, simprocAttr, hS2, hZ2, natNe, List.mem_cons, List.not_mem_nil, TyD.isAgg, Nat.add_assoc, List.map_nil, List.length_nil, beq_self_eq_true, St.back, rowAt_aftJ, idsL, idsA, idsLL, List.cons_append, List.nil_append, List.append_nil, Option.map_some, Bool.and_self, Bool.and_true, Bool.true_and, Bool.false_and, Bool.and_false, Bool.not_true, Bool.not_false, Bool.false_eq_true, hf1, hf2, hf3, hf4, hf5, hq, b1, b2] <;> rfl); all_goals try ((with_reducible intro hI); try first | (cases hI; done) | (simp only [INTS, not_true_eq_false] at hI; try first | (exfalso; omega) | (have hT : True := hI; clear hT hI))))
      | ((first | (apply W.callv cx_ok; decide) | (apply D.callv cx_ok; decide; decide)); (iterate 2 (simp (disch := omega) only [push_cast, simprocAttr, hS2, hZ2, natNe, List.mem_cons, List.not_mem_nil, TyD.isAgg, Nat.add_assoc, List.map_nil, List.length_nil, beq_self_eq_true, St.back, rowAt_aftJ, idsL, idsA, idsLL, List.cons_append, List.nil_append, List.append_nil, Option.map_some, Bool.and_self, Bool.and_true, Bool.true_and, Bool.false_and, Bool.and_false, Bool.not_true, Bool.not_false, Bool.false_eq_true, hf1, hf2, hf3, hf4, hf5, hq, b1, b2] <;> rfl)); (with_reducible first | exact hs | exact c5 | exact c6 | exact t1 | exact t2); try first | rfl | (simp (disch := omega) only [push_cast, simprocAttr, hS2, hZ2, natNe, List.mem_cons, List.not_mem_nil, TyD.isAgg, Nat.add_assoc, List.map_nil, List.length_nil, beq_self_eq_true, St.back, rowAt_aftJ, idsL, idsA, idsLL, List.cons_append, List.nil_append, List.append_nil, Option.map_some, Bool.and_self, Bool.and_true, Bool.true_and, Bool.false_and, Bool.and_false, Bool.not_true, Bool.not_false, Bool.false_eq_true, hf1, hf2, hf3, hf4, hf5, hq, b1, b2] <;> rfl))
      | ((first | apply W.ret1 | apply W.end1); (iterate 2 (try (simp (disch := omega) only [push_cast, simprocAttr, hS2, hZ2, natNe, List.mem_cons, List.not_mem_nil, TyD.isAgg, Nat.add_assoc, List.map_nil, List.length_nil, beq_self_eq_true, St.back, rowAt_aftJ, idsL, idsA, idsLL, List.cons_append, List.nil_append, List.append_nil, Option.map_some, Bool.and_self, Bool.and_true, Bool.true_and, Bool.false_and, Bool.and_false, Bool.not_true, Bool.not_false, Bool.false_eq_true, hf1, hf2, hf3, hf4, hf5, hq, b1, b2] <;> rfl))))

    all_goals (show _ = _; rfl)
  | false =>
  rw [hA] at c5
  cases hB : hasF m.arc (at0 - q2) with
  | true =>
    rw [hB] at c6
    have hsh := (show hasF m.arc (at0 + -(q2 : Int)) = true by rw [← Int.sub_eq_add_neg]; exact hB)
    have st := strikes_back (p := KK.pat.toNat) (S := m.seen.toNat) (B := m.blank.toNat) (sh := -(q2 : Int)) (i := i) hal (by omega)
    have t1 : OKv cx 35 [.agg (eKey KK), ai at0, .agg (eBlow ⟨((KK.pat.toNat &&& m.blank.toNat : Nat) : Int), ((dropB m.seen.toNat KK.pat.toNat : Nat) : Int), -(q2 : Int)⟩), .agg (eInk i)] (.tup [.agg (eMark (backM KK m at0 (-(q2 : Int)))), ai 0]) :=
      Strike_good KK at0 ⟨((KK.pat.toNat &&& m.blank.toNat : Nat) : Int), ((dropB m.seen.toNat KK.pat.toNat : Nat) : Int), -(q2 : Int)⟩ i hkv h3 (by dsimp only; omega) (by dsimp only; omega) 0 _ (.inl ⟨by simp only [Int.toNat_natCast]; exact st, rfl, by simp only [Int.toNat_natCast]; rfl⟩)
    have t2 := Sharpen_good h0 m (backM KK m at0 (-(q2 : Int))) ⟨h2, back_mark (i := i) hkv h2 at0 _⟩
    rw [back_sharp hkv h2 hmd hsh] at t2
    generalize backM KK m at0 (-(q2 : Int)) = BM at *
    repeat' first
      | ((first | (apply W.eeN cx_ok; decide) | (apply D.eeN cx_ok; decide; decide)); rfl; rfl; exact E42; (iterate 2 (simp (disch := omega) only [push_cast, simprocAttr, hS2, hZ2, natNe, List.mem_cons, List.not_mem_nil, TyD.isAgg, Nat.add_assoc, List.map_nil, List.length_nil, beq_self_eq_true, St.back, rowAt_aftJ, idsL, idsA, idsLL, List.cons_append, List.nil_append, List.append_nil, Option.map_some, Bool.and_self, Bool.and_true, Bool.true_and, Bool.false_and, Bool.and_false, Bool.not_true, Bool.not_false, Bool.false_eq_true, hf1, hf2, hf3, hf4, hf5, hq, b1, b2, Int.zero_sub] <;> rfl)); (simp (disch := omega) only [push_cast, simprocAttr, hS2, hZ2, natNe, List.mem_cons, List.not_mem_nil, TyD.isAgg, Nat.add_assoc, List.map_nil, List.length_nil, beq_self_eq_true, St.back, rowAt_aftJ, idsL, idsA, idsLL, List.cons_append, List.nil_append, List.append_nil, Option.map_some, Bool.and_self, Bool.and_true, Bool.true_and, Bool.false_and, Bool.and_false, Bool.not_true, Bool.not_false, Bool.false_eq_true, hf1, hf2, hf3, hf4, hf5, hq, b1, b2, Int.zero_sub, cellsEqN, cellEqN] <;> rfl))
      | apply AW.seq | apply AW.region | apply AW.ret | apply AW.block | apply AW.skip | apply AW.exit | apply AW.scope | apply AW.label | apply AWL.nil | apply D.nil
      | refine W.draw cx_mixed (by decide +kernel) ?_
      | ((first | (apply W.step cx_ok; decide) | (apply D.step cx_ok; decide; decide) | apply W.store cx_ok | (apply W.gS; rfl; decide) | (apply D.gS; rfl; decide; decide) | apply AW.cond); (simp (disch := omega) only [push_cast, simprocAttr, hS2, hZ2, natNe, List.mem_cons, List.not_mem_nil, TyD.isAgg, Nat.add_assoc, List.map_nil, List.length_nil, beq_self_eq_true, St.back, rowAt_aftJ, idsL, idsA, idsLL, List.cons_append, List.nil_append, List.append_nil, Option.map_some, Bool.and_self, Bool.and_true, Bool.true_and, Bool.false_and, Bool.and_false, Bool.not_true, Bool.not_false, Bool.false_eq_true, hf1, hf2, hf3, hf4, hf5, hq, b1, b2, Int.zero_sub] <;> rfl); all_goals try ((with_reducible intro hI); try first | (cases hI; done) | (simp only [INTS, not_true_eq_false] at hI; try first | (exfalso; omega) | (have hT : True := hI; clear hT hI))))
      | ((first | (apply W.callv cx_ok; decide) | (apply D.callv cx_ok; decide; decide)); (iterate 2 (simp (disch := omega) only [push_cast, simprocAttr, hS2, hZ2, natNe, List.mem_cons, List.not_mem_nil, TyD.isAgg, Nat.add_assoc, List.map_nil, List.length_nil, beq_self_eq_true, St.back, rowAt_aftJ, idsL, idsA, idsLL, List.cons_append, List.nil_append, List.append_nil, Option.map_some, Bool.and_self, Bool.and_true, Bool.true_and, Bool.false_and, Bool.and_false, Bool.not_true, Bool.not_false, Bool.false_eq_true, hf1, hf2, hf3, hf4, hf5, hq, b1, b2, Int.zero_sub] <;> rfl)); (with_reducible first | exact hs | exact c5 | exact c6 | exact t1 | exact t2); try first | rfl | (simp (disch := omega) only [push_cast, simprocAttr, hS2, hZ2, natNe, List.mem_cons, List.not_mem_nil, TyD.isAgg, Nat.add_assoc, List.map_nil, List.length_nil, beq_self_eq_true, St.back, rowAt_aftJ, idsL, idsA, idsLL, List.cons_append, List.nil_append, List.append_nil, Option.map_some, Bool.and_self, Bool.and_true, Bool.true_and, Bool.false_and, Bool.and_false, Bool.not_true, Bool.not_false, Bool.false_eq_true, hf1, hf2, hf3, hf4, hf5, hq, b1, b2, Int.zero_sub] <;> rfl))
      | ((first | apply W.ret1 | apply W.end1); (iterate 2 (try (simp (disch := omega) only [push_cast, simprocAttr, hS2, hZ2, natNe, List.mem_cons, List.not_mem_nil, TyD.isAgg, Nat.add_assoc, List.map_nil, List.length_nil, beq_self_eq_true, St.back, rowAt_aftJ, idsL, idsA, idsLL, List.cons_append, List.nil_append, List.append_nil, Option.map_some, Bool.and_self, Bool.and_true, Bool.true_and, Bool.false_and, Bool.and_false, Bool.not_true, Bool.not_false, Bool.false_eq_true, hf1, hf2, hf3, hf4, hf5, hq, b1, b2, Int.zero_sub] <;> rfl))))

    all_goals (show _ = _; rfl)
  | false =>
  rw [hB] at c6
  have hqd : q2 ≠ dd := fun e => by
    subst e
    rcases hdh with g | g
    · rw [hA] at g; cases g
    · rw [hB] at g; cases g
  repeat' first
    | apply AW.seq | apply AW.region | apply AW.ret | apply AW.block | apply AW.skip | apply AW.exit | apply AW.scope | apply AW.label | apply AWL.nil | apply D.nil
    | refine W.draw cx_mixed (by decide +kernel) ?_
    | ((first | (apply W.step cx_ok; decide) | (apply D.step cx_ok; decide; decide) | apply W.store cx_ok | (apply W.gS; rfl; decide) | (apply D.gS; rfl; decide; decide) | apply AW.cond); (simp (disch := omega) only [push_cast, simprocAttr, hS2, hZ2, natNe, List.mem_cons, List.not_mem_nil, TyD.isAgg, Nat.add_assoc, List.map_nil, List.length_nil, beq_self_eq_true, St.back, rowAt_aftJ, idsL, idsA, idsLL, List.cons_append, List.nil_append, List.append_nil, Option.map_some, Bool.and_self, Bool.and_true, Bool.true_and, Bool.false_and, Bool.and_false, Bool.not_true, Bool.not_false, Bool.false_eq_true, hf1, hf2, hf3, hf4, hf5, hq] <;> rfl); all_goals try ((with_reducible intro hI); try first | (cases hI; done) | (simp only [INTS, not_true_eq_false] at hI; try first | (exfalso; omega) | (have hT : True := hI; clear hT hI))))
    | ((first | (apply W.callv cx_ok; decide) | (apply D.callv cx_ok; decide; decide)); (iterate 2 (simp (disch := omega) only [push_cast, simprocAttr, hS2, hZ2, natNe, List.mem_cons, List.not_mem_nil, TyD.isAgg, Nat.add_assoc, List.map_nil, List.length_nil, beq_self_eq_true, St.back, rowAt_aftJ, idsL, idsA, idsLL, List.cons_append, List.nil_append, List.append_nil, Option.map_some, Bool.and_self, Bool.and_true, Bool.true_and, Bool.false_and, Bool.and_false, Bool.not_true, Bool.not_false, Bool.false_eq_true, hf1, hf2, hf3, hf4, hf5, hq] <;> rfl)); (with_reducible first | exact c5 | exact c6); try first | rfl | (simp (disch := omega) only [push_cast, simprocAttr, hS2, hZ2, natNe, List.mem_cons, List.not_mem_nil, TyD.isAgg, Nat.add_assoc, List.map_nil, List.length_nil, beq_self_eq_true, St.back, rowAt_aftJ, idsL, idsA, idsLL, List.cons_append, List.nil_append, List.append_nil, Option.map_some, Bool.and_self, Bool.and_true, Bool.true_and, Bool.false_and, Bool.and_false, Bool.not_true, Bool.not_false, Bool.false_eq_true, hf1, hf2, hf3, hf4, hf5, hq] <;> rfl))
    | ((first | apply W.ret1 | apply W.end1); (iterate 2 (try (simp (disch := omega) only [push_cast, simprocAttr, hS2, hZ2, natNe, List.mem_cons, List.not_mem_nil, TyD.isAgg, Nat.add_assoc, List.map_nil, List.length_nil, beq_self_eq_true, St.back, rowAt_aftJ, idsL, idsA, idsLL, List.cons_append, List.nil_append, List.append_nil, Option.map_some, Bool.and_self, Bool.and_true, Bool.true_and, Bool.false_and, Bool.and_false, Bool.not_true, Bool.not_false, Bool.false_eq_true, hf1, hf2, hf3, hf4, hf5, hq] <;> rfl))))

  all_goals (refine ⟨((i.slip.toNat + 1) - (q2 + 1)), ?_, q2 + 1, rfl, (by omega), ?_, ?_, ?_, ?_, ?_, ?_, ?_, ?_, ?_, ?_⟩; (omega); all_goals first | (simp (disch := omega) only [push_cast, simprocAttr, hS2, hZ2, natNe, List.mem_cons, List.not_mem_nil, TyD.isAgg, Nat.add_assoc, List.map_nil, List.length_nil, beq_self_eq_true, St.back, rowAt_aftJ, idsL, idsA, idsLL, List.cons_append, List.nil_append, List.append_nil, Option.map_some, Bool.and_self, Bool.and_true, Bool.true_and, Bool.false_and, Bool.and_false, Bool.not_true, Bool.not_false, Bool.false_eq_true, hf1, hf2, hf3, hf4, hf5, hq] <;> first | rfl | omega) | omega)
end Go.Proofs.Ds
