/-
  Contracts of functions, proved by going through their code. No conditions.
-/
import Derived.Test.YtkdiplkmcilkmaaDoorDtU
import Derived.Test.YtkdiplkmcilkmaaDoorDvI
set_option linter.unusedVariables false
set_option linter.unusedSimpArgs false
set_option maxHeartbeats 8000000
set_option maxRecDepth 10000
namespace Go.Proofs.Ds
open Go Go.Pg Go.Proofs
theorem cab_full (hs : OKv cx 19 [] (ab true)) (l : List Key) (m : Mark) (i : Ink) (tr fr : Int) (hlen : l.length < 40) (hcab : Cab l i) (c0 : OKv cx 73 [lKey l, .agg (eInk i)] (.tup [ai 0, ai (-1)])) (hm : bunchF l = true ∧ markV m = true ∧ inkV i = true) (hfull : (m.seen.toNat ||| m.blank.toNat) = 4095) : OKv cx 17 [lKey l, .agg (eMark m), .agg (eInk i), ai tr, ai fr] (ab true) := by
  have hf1 : ∀ m e, flatA (.tup [.agg (eMark m), .v e]) = true := fun _ _ => rfl
  have hf2 : ∀ x, flatA (.v x) = true := fun _ => rfl
  have hf3 : ∀ l x, flatA (.tup [.lst l, .v x]) = false := fun _ _ => rfl
  have hf4 : ∀ m, flatA (.agg (eMark m)) = true := fun _ => rfl
  have hf5 : ∀ x y, flatA (.tup [.v x, .v y]) = true := fun _ _ => rfl
  have hbu := cab_bunch hcab
  have yF : (40 ≤ (l.length : Int)) = False := eq_false (by omega)
  have zT : True := trivial
  have c1 := Makers_good l m i hm
  have hml := makers_len l m i
  obtain ⟨_, _, ms, mb, _⟩ := markV_iff.1 hm.2.1
  have e3 : (m.seen.toNat : Int) = m.seen := Int.toNat_of_nonneg ms.1
  have e4 : (m.blank.toNat : Int) = m.blank := Int.toNat_of_nonneg mb.1
  have a1 := orI (p := m.seen.toNat) (q := m.blank.toNat) (by omega) (by omega)
  rw [e3, e4] at a1
  have hone := makers_one hcab hfull
  rw [hfull] at a1
  have e5 : ((4095 : Nat) : Int) = 4095 := rfl
  rw [e5] at a1
  generalize makersF l m i = MK at *
  have oF : (1 < (MK.length : Int)) = False := eq_false (by omega)
  by_cases hl0 : l.length = 0
  · have nT : (0 < (l.length : Int)) = False := eq_false (by omega)
    obtain ⟨DD, hDD⟩ : ∃ z : Int, z = 1 := ⟨1, rfl⟩
    have hlast : ∀ x ∈ l, x.id < DD := fun x hx => by rw [List.eq_nil_of_length_eq_zero hl0] at hx; cases hx
    have hDb : 1 ≤ DD ∧ DD ≤ 1099511627776 := by omega
    have idF : (1099511627776 < DD) = False := eq_false (by omega)
    subst hDD
    by_cases hv : (bunchF l = true ∧ (0 ≤ tr ∧ tr ≤ 3) ∧ (1 ≤ fr ∧ fr ≤ 4095) ∧ inkV i = true)
    rotate_left
    · have c5 := Propose_bad l tr fr i hv
      refine OKat.of_body (rs := [10]) Tryd.func17 rfl (by decide +kernel) rfl (by simp [Tryd.ntmps17]) ?_
      simp only [Tryd.ntmps17]
      repeat' first
        | apply AW.seq | apply AW.region | apply AW.ret | apply AW.block | apply AW.skip | apply AW.exit | apply AW.scope | apply AW.label | apply AWL.nil
        | ((first | (apply W.step cx_ok; decide) | (apply W.gS; rfl; decide) | apply AW.cond); (simp (disch := omega) only [push_cast, simprocAttr, natNe, List.mem_cons, List.not_mem_nil, TyD.isAgg, Nat.add_assoc, List.map_nil, List.length_nil, beq_self_eq_true, St.back, rowAt_aftJ, idsL, idsA, idsLL, List.cons_append, List.nil_append, List.append_nil, Option.map_some, Bool.and_self, Bool.and_true, Bool.true_and, Bool.false_and, Bool.and_false, Bool.not_true, Bool.not_false, Bool.false_eq_true, hf1, hf2, hf3, hf4, hf5, yF, a1, oF, idF, nT] <;> rfl); all_goals try ((with_reducible intro hI); try first | (cases hI; done) | (simp only [INTS, not_true_eq_false] at hI; try first | (exfalso; omega) | (have hT : True := hI; clear hT hI))))
        | ((apply W.callv cx_ok; decide); (iterate 2 (simp (disch := omega) only [push_cast, simprocAttr, natNe, List.mem_cons, List.not_mem_nil, TyD.isAgg, Nat.add_assoc, List.map_nil, List.length_nil, beq_self_eq_true, St.back, rowAt_aftJ, idsL, idsA, idsLL, List.cons_append, List.nil_append, List.append_nil, Option.map_some, Bool.and_self, Bool.and_true, Bool.true_and, Bool.false_and, Bool.and_false, Bool.not_true, Bool.not_false, Bool.false_eq_true, hf1, hf2, hf3, hf4, hf5, yF, a1, oF, idF, nT] <;> rfl)); (with_reducible first | exact hs | exact c0 | exact c1 | exact c5); try first | rfl | (simp (disch := omega) only [push_cast, simprocAttr, natNe, List.mem_cons, List.not_mem_nil, TyD.isAgg, Nat.add_assoc, List.map_nil, List.length_nil, beq_self_eq_true, St.back, rowAt_aftJ, idsL, idsA, idsLL, List.cons_append, List.nil_append, List.append_nil, Option.map_some, Bool.and_self, Bool.and_true, Bool.true_and, Bool.false_and, Bool.and_false, Bool.not_true, Bool.not_false, Bool.false_eq_true, hf1, hf2, hf3, hf4, hf5, yF, a1, oF, idF, nT] <;> rfl))
        | ((first | apply W.ret1 | apply W.end1); (iterate 2 (try (simp (disch := omega) only [push_cast, simprocAttr, natNe, List.mem_cons, List.not_mem_nil, TyD.isAgg, Nat.add_assoc, List.map_nil, List.length_nil, beq_self_eq_true, St.back, rowAt_aftJ, idsL, idsA, idsLL, List.cons_append, List.nil_append, List.append_nil, Option.map_some, Bool.and_self, Bool.and_true, Bool.true_and, Bool.false_and, Bool.and_false, Bool.not_true, Bool.not_false, Bool.false_eq_true, hf1, hf2, hf3, hf4, hf5, yF, a1, oF, idF, nT] <;> rfl))))

      all_goals (show _ = _; rfl)
    have c5 := Propose_good l tr fr i hv
    unfold propF at c5
    rcases prop_cases l tr i (4096 - fr.toNat) fr.toNat with hp | ⟨v, hp, p1, p2, p3⟩
    · rw [hp] at c5
      refine OKat.of_body (rs := [10]) Tryd.func17 rfl (by decide +kernel) rfl (by simp [Tryd.ntmps17]) ?_
      simp only [Tryd.ntmps17]
      repeat' first
        | apply AW.seq | apply AW.region | apply AW.ret | apply AW.block | apply AW.skip | apply AW.exit | apply AW.scope | apply AW.label | apply AWL.nil
        | ((first | (apply W.step cx_ok; decide) | (apply W.gS; rfl; decide) | apply AW.cond); (simp (disch := omega) only [push_cast, simprocAttr, natNe, List.mem_cons, List.not_mem_nil, TyD.isAgg, Nat.add_assoc, List.map_nil, List.length_nil, beq_self_eq_true, St.back, rowAt_aftJ, idsL, idsA, idsLL, List.cons_append, List.nil_append, List.append_nil, Option.map_some, Bool.and_self, Bool.and_true, Bool.true_and, Bool.false_and, Bool.and_false, Bool.not_true, Bool.not_false, Bool.false_eq_true, hf1, hf2, hf3, hf4, hf5, yF, a1, oF, idF, nT] <;> rfl); all_goals try ((with_reducible intro hI); try first | (cases hI; done) | (simp only [INTS, not_true_eq_false] at hI; try first | (exfalso; omega) | (have hT : True := hI; clear hT hI))))
        | ((apply W.callv cx_ok; decide); (iterate 2 (simp (disch := omega) only [push_cast, simprocAttr, natNe, List.mem_cons, List.not_mem_nil, TyD.isAgg, Nat.add_assoc, List.map_nil, List.length_nil, beq_self_eq_true, St.back, rowAt_aftJ, idsL, idsA, idsLL, List.cons_append, List.nil_append, List.append_nil, Option.map_some, Bool.and_self, Bool.and_true, Bool.true_and, Bool.false_and, Bool.and_false, Bool.not_true, Bool.not_false, Bool.false_eq_true, hf1, hf2, hf3, hf4, hf5, yF, a1, oF, idF, nT] <;> rfl)); (with_reducible first | exact hs | exact c0 | exact c1 | exact c5); try first | rfl | (simp (disch := omega) only [push_cast, simprocAttr, natNe, List.mem_cons, List.not_mem_nil, TyD.isAgg, Nat.add_assoc, List.map_nil, List.length_nil, beq_self_eq_true, St.back, rowAt_aftJ, idsL, idsA, idsLL, List.cons_append, List.nil_append, List.append_nil, Option.map_some, Bool.and_self, Bool.and_true, Bool.true_and, Bool.false_and, Bool.and_false, Bool.not_true, Bool.not_false, Bool.false_eq_true, hf1, hf2, hf3, hf4, hf5, yF, a1, oF, idF, nT] <;> rfl))
        | ((first | apply W.ret1 | apply W.end1); (iterate 2 (try (simp (disch := omega) only [push_cast, simprocAttr, natNe, List.mem_cons, List.not_mem_nil, TyD.isAgg, Nat.add_assoc, List.map_nil, List.length_nil, beq_self_eq_true, St.back, rowAt_aftJ, idsL, idsA, idsLL, List.cons_append, List.nil_append, List.append_nil, Option.map_some, Bool.and_self, Bool.and_true, Bool.true_and, Bool.false_and, Bool.and_false, Bool.not_true, Bool.not_false, Bool.false_eq_true, hf1, hf2, hf3, hf4, hf5, yF, a1, oF, idF, nT] <;> rfl))))

      all_goals (show _ = _; rfl)
    · rw [hp] at c5
      have hmore := cab_more hcab (by omega) (d := 1) (tr := tr) (v := v) (by omega) hv.2.1 (by omega) hlast p3
      have c6 := CheckKeys_ok (l ++ [⟨1, tr, ((v : Nat) : Int)⟩]) i (by rw [List.length_append, List.length_singleton]; omega)
      rw [hmore] at c6
      have hmm : l.map eKey ++ [[ai 1, ai tr, ai ((v : Nat) : Int)]] = (l ++ [(⟨1, tr, ((v : Nat) : Int)⟩ : Key)]).map eKey := by rw [List.map_append]; rfl
      have hmlen : (l ++ [(⟨1, tr, ((v : Nat) : Int)⟩ : Key)]).length = l.length + 1 := by rw [List.length_append, List.length_singleton]
      generalize l ++ [(⟨1, tr, ((v : Nat) : Int)⟩ : Key)] = LL at *
      have hge : (fr ≤ ((v : Nat) : Int)) = True := eq_true (by omega)
      have hsa : (∀ e ∈ l.map eKey, e.length = 3) = True := eq_true (fun e he => by obtain ⟨x, _, rfl⟩ := List.mem_map.1 he; rfl)
      refine OKat.of_body (rs := [10]) Tryd.func17 rfl (by decide +kernel) rfl (by simp [Tryd.ntmps17]) ?_
      simp only [Tryd.ntmps17]
      repeat' first
        | apply AW.seq | apply AW.region | apply AW.ret | apply AW.block | apply AW.skip | apply AW.exit | apply AW.scope | apply AW.label | apply AWL.nil
        | ((first | (apply W.step cx_ok; decide) | (apply W.gS; rfl; decide) | apply AW.cond); (simp (disch := (first | omega | (simp only [List.length_append, List.length_map, List.length_cons, List.length_nil, List.length_take, List.length_drop]; omega))) only [push_cast, simprocAttr, takeM, dropM, List.take_length, List.length_take, List.length_drop, List.all_append, List.all_cons, List.all_nil, Bool.and_true, Bool.and_self, and_self, and_true, true_and, leT, List.take_of_length_le, pureL, pureA, natNe, List.mem_cons, List.not_mem_nil, TyD.isAgg, Nat.add_assoc, List.map_nil, List.length_nil, beq_self_eq_true, St.back, rowAt_aftJ, idsL, idsA, idsLL, List.cons_append, List.nil_append, List.append_nil, Option.map_some, Bool.true_and, Bool.false_and, Bool.and_false, Bool.not_true, Bool.not_false, Bool.false_eq_true, hf1, hf2, hf3, hf4, hf5, yF, a1, oF, idF, nT, hge, hmm, hmlen, hsa] <;> rfl); all_goals try ((with_reducible intro hI); try first | (cases hI; done) | (simp only [INTS, not_true_eq_false] at hI; try first | (exfalso; omega) | (have hT : True := hI; clear hT hI))))
        | (apply W.append cx_ok; decide; rfl; rfl; rfl; decide; (iterate 3 (simp (disch := (first | omega | (simp only [List.length_append, List.length_map, List.length_cons, List.length_nil, List.length_take, List.length_drop]; omega))) only [push_cast, simprocAttr, takeM, dropM, List.take_length, List.length_take, List.length_drop, List.all_append, List.all_cons, List.all_nil, Bool.and_true, Bool.and_self, and_self, and_true, true_and, leT, List.take_of_length_le, pureL, pureA, natNe, List.mem_cons, List.not_mem_nil, TyD.isAgg, Nat.add_assoc, List.map_nil, List.length_nil, beq_self_eq_true, St.back, rowAt_aftJ, idsL, idsA, idsLL, List.cons_append, List.nil_append, List.append_nil, Option.map_some, Bool.true_and, Bool.false_and, Bool.and_false, Bool.not_true, Bool.not_false, Bool.false_eq_true, hf1, hf2, hf3, hf4, hf5, yF, a1, oF, idF, nT, hge, hmm, hmlen, hsa] <;> rfl)); (first | (focus (simp; done)) | (intro c hc; obtain ⟨x, _, rfl⟩ := List.mem_map.1 hc; rfl)); ((first | rfl | simp (disch := omega) only [push_cast])); ((try dsimp only); (try simp only [List.length_map, List.length_append, List.length_cons, List.length_nil, List.length_take, List.length_drop]); omega); ((try dsimp only); (try simp only [List.length_map, List.length_append, List.length_cons, List.length_nil, List.length_take, List.length_drop]); omega))
        | ((apply W.callv cx_ok; decide); (iterate 2 (simp (disch := (first | omega | (simp only [List.length_append, List.length_map, List.length_cons, List.length_nil, List.length_take, List.length_drop]; omega))) only [push_cast, simprocAttr, takeM, dropM, List.take_length, List.length_take, List.length_drop, List.all_append, List.all_cons, List.all_nil, Bool.and_true, Bool.and_self, and_self, and_true, true_and, leT, List.take_of_length_le, pureL, pureA, natNe, List.mem_cons, List.not_mem_nil, TyD.isAgg, Nat.add_assoc, List.map_nil, List.length_nil, beq_self_eq_true, St.back, rowAt_aftJ, idsL, idsA, idsLL, List.cons_append, List.nil_append, List.append_nil, Option.map_some, Bool.true_and, Bool.false_and, Bool.and_false, Bool.not_true, Bool.not_false, Bool.false_eq_true, hf1, hf2, hf3, hf4, hf5, yF, a1, oF, idF, nT, hge, hmm, hmlen, hsa] <;> rfl)); (with_reducible first | exact hs | exact c0 | exact c1 | exact c5 | exact c6); try first | rfl | (simp (disch := (first | omega | (simp only [List.length_append, List.length_map, List.length_cons, List.length_nil, List.length_take, List.length_drop]; omega))) only [push_cast, simprocAttr, takeM, dropM, List.take_length, List.length_take, List.length_drop, List.all_append, List.all_cons, List.all_nil, Bool.and_true, Bool.and_self, and_self, and_true, true_and, leT, List.take_of_length_le, pureL, pureA, natNe, List.mem_cons, List.not_mem_nil, TyD.isAgg, Nat.add_assoc, List.map_nil, List.length_nil, beq_self_eq_true, St.back, rowAt_aftJ, idsL, idsA, idsLL, List.cons_append, List.nil_append, List.append_nil, Option.map_some, Bool.true_and, Bool.false_and, Bool.and_false, Bool.not_true, Bool.not_false, Bool.false_eq_true, hf1, hf2, hf3, hf4, hf5, yF, a1, oF, idF, nT, hge, hmm, hmlen, hsa] <;> rfl))
        | ((first | apply W.ret1 | apply W.end1); (iterate 2 (try (simp (disch := (first | omega | (simp only [List.length_append, List.length_map, List.length_cons, List.length_nil, List.length_take, List.length_drop]; omega))) only [push_cast, simprocAttr, takeM, dropM, List.take_length, List.length_take, List.length_drop, List.all_append, List.all_cons, List.all_nil, Bool.and_true, Bool.and_self, and_self, and_true, true_and, leT, List.take_of_length_le, pureL, pureA, natNe, List.mem_cons, List.not_mem_nil, TyD.isAgg, Nat.add_assoc, List.map_nil, List.length_nil, beq_self_eq_true, St.back, rowAt_aftJ, idsL, idsA, idsLL, List.cons_append, List.nil_append, List.append_nil, Option.map_some, Bool.true_and, Bool.false_and, Bool.and_false, Bool.not_true, Bool.not_false, Bool.false_eq_true, hf1, hf2, hf3, hf4, hf5, yF, a1, oF, idF, nT, hge, hmm, hmlen, hsa] <;> rfl))))

      all_goals (show _ = _; rfl)
  · have nT : (0 < (l.length : Int)) = True := eq_true (by omega)
    have hln : l.length - 1 < l.length := by omega
    have lx := get_map eKey l (l.length - 1) default hln
    have lg := getD_map eKey l (l.length - 1) [] default hln
    have hll := last_lt hbu (by omega)
    have hlk := bunch_key hbu _ (getD_mem hln)
    generalize l.getD (l.length - 1) default = y at *
    obtain ⟨y1, _, _⟩ := keyV_iff.1 hlk
    have z1 : (0 : Int) ≤ (l.length : Int) - 1 := by omega
    have z2 : (l.length : Int) - 1 < (l.length : Int) := by omega
    have z3 : ((l.length : Int) - 1).toNat = l.length - 1 := by omega
    obtain ⟨DD, hDy⟩ : ∃ z, y.id + 1 = z := ⟨_, rfl⟩
    by_cases hbig : 1099511627776 < DD
    · have idT := eq_true hbig
      refine OKat.of_body (rs := [10]) Tryd.func17 rfl (by decide +kernel) rfl (by simp [Tryd.ntmps17]) ?_
      simp only [Tryd.ntmps17]
      repeat' first
        | apply AW.seq | apply AW.region | apply AW.ret | apply AW.block | apply AW.skip | apply AW.exit | apply AW.scope | apply AW.label | apply AWL.nil
        | ((first | (apply W.step cx_ok; decide) | (apply W.gS; rfl; decide) | apply AW.cond); (simp (disch := omega) only [push_cast, simprocAttr, natNe, List.mem_cons, List.not_mem_nil, TyD.isAgg, Nat.add_assoc, List.map_nil, List.length_nil, beq_self_eq_true, St.back, rowAt_aftJ, idsL, idsA, idsLL, List.cons_append, List.nil_append, List.append_nil, Option.map_some, Bool.and_self, Bool.and_true, Bool.true_and, Bool.false_and, Bool.and_false, Bool.not_true, Bool.not_false, Bool.false_eq_true, hf1, hf2, hf3, hf4, hf5, yF, a1, oF, idT, nT, hln, lx, lg, z1, z2, z3, hDy] <;> rfl); all_goals try ((with_reducible intro hI); try first | (cases hI; done) | (simp only [INTS, not_true_eq_false] at hI; try first | (exfalso; omega) | (have hT : True := hI; clear hT hI))))
        | ((apply W.callv cx_ok; decide); (iterate 2 (simp (disch := omega) only [push_cast, simprocAttr, natNe, List.mem_cons, List.not_mem_nil, TyD.isAgg, Nat.add_assoc, List.map_nil, List.length_nil, beq_self_eq_true, St.back, rowAt_aftJ, idsL, idsA, idsLL, List.cons_append, List.nil_append, List.append_nil, Option.map_some, Bool.and_self, Bool.and_true, Bool.true_and, Bool.false_and, Bool.and_false, Bool.not_true, Bool.not_false, Bool.false_eq_true, hf1, hf2, hf3, hf4, hf5, yF, a1, oF, idT, nT, hln, lx, lg, z1, z2, z3, hDy] <;> rfl)); (with_reducible first | exact hs | exact c0 | exact c1); try first | rfl | (simp (disch := omega) only [push_cast, simprocAttr, natNe, List.mem_cons, List.not_mem_nil, TyD.isAgg, Nat.add_assoc, List.map_nil, List.length_nil, beq_self_eq_true, St.back, rowAt_aftJ, idsL, idsA, idsLL, List.cons_append, List.nil_append, List.append_nil, Option.map_some, Bool.and_self, Bool.and_true, Bool.true_and, Bool.false_and, Bool.and_false, Bool.not_true, Bool.not_false, Bool.false_eq_true, hf1, hf2, hf3, hf4, hf5, yF, a1, oF, idT, nT, hln, lx, lg, z1, z2, z3, hDy] <;> rfl))
        | ((first | apply W.ret1 | apply W.end1); (iterate 2 (try (simp (disch := omega) only [push_cast, simprocAttr, natNe, List.mem_cons, List.not_mem_nil, TyD.isAgg, Nat.add_assoc, List.map_nil, List.length_nil, beq_self_eq_true, St.back, rowAt_aftJ, idsL, idsA, idsLL, List.cons_append, List.nil_append, List.append_nil, Option.map_some, Bool.and_self, Bool.and_true, Bool.true_and, Bool.false_and, Bool.and_false, Bool.not_true, Bool.not_false, Bool.false_eq_true, hf1, hf2, hf3, hf4, hf5, yF, a1, oF, idT, nT, hln, lx, lg, z1, z2, z3, hDy] <;> rfl))))

      all_goals (show _ = _; rfl)
    · have idF := eq_false hbig
      have hlast : ∀ x ∈ l, x.id < DD := fun x hx => by rw [← hDy]; exact hll x hx
      have hDb : 1 ≤ DD ∧ DD ≤ 1099511627776 := by omega
      by_cases hv : (bunchF l = true ∧ (0 ≤ tr ∧ tr ≤ 3) ∧ (1 ≤ fr ∧ fr ≤ 4095) ∧ inkV i = true)
      rotate_left
      · have c5 := Propose_bad l tr fr i hv
        refine OKat.of_body (rs := [10]) Tryd.func17 rfl (by decide +kernel) rfl (by simp [Tryd.ntmps17]) ?_
        simp only [Tryd.ntmps17]
        repeat' first
          | apply AW.seq | apply AW.region | apply AW.ret | apply AW.block | apply AW.skip | apply AW.exit | apply AW.scope | apply AW.label | apply AWL.nil
          | ((first | (apply W.step cx_ok; decide) | (apply W.gS; rfl; decide) | apply AW.cond); (simp (disch := omega) only [push_cast, simprocAttr, natNe, List.mem_cons, List.not_mem_nil, TyD.isAgg, Nat.add_assoc, List.map_nil, List.length_nil, beq_self_eq_true, St.back, rowAt_aftJ, idsL, idsA, idsLL, List.cons_append, List.nil_append, List.append_nil, Option.map_some, Bool.and_self, Bool.and_true, Bool.true_and, Bool.false_and, Bool.and_false, Bool.not_true, Bool.not_false, Bool.false_eq_true, hf1, hf2, hf3, hf4, hf5, yF, a1, oF, idF, nT, hln, lx, lg, z1, z2, z3, hDy] <;> rfl); all_goals try ((with_reducible intro hI); try first | (cases hI; done) | (simp only [INTS, not_true_eq_false] at hI; try first | (exfalso; omega) | (have hT : True := hI; clear hT hI))))
          | ((apply W.callv cx_ok; decide); (iterate 2 (simp (disch := omega) only [push_cast, simprocAttr, natNe, List.mem_cons, List.not_mem_nil, TyD.isAgg, Nat.add_assoc, List.map_nil, List.length_nil, beq_self_eq_true, St.back, rowAt_aftJ, idsL, idsA, idsLL, List.cons_append, List.nil_append, List.append_nil, Option.map_some, Bool.and_self, Bool.and_true, Bool.true_and, Bool.false_and, Bool.and_false, Bool.not_true, Bool.not_false, Bool.false_eq_true, hf1, hf2, hf3, hf4, hf5, yF, a1, oF, idF, nT, hln, lx, lg, z1, z2, z3, hDy] <;> rfl)); (with_reducible first | exact hs | exact c0 | exact c1 | exact c5); try first | rfl | (simp (disch := omega) only [push_cast, simprocAttr, natNe, List.mem_cons, List.not_mem_nil, TyD.isAgg, Nat.add_assoc, List.map_nil, List.length_nil, beq_self_eq_true, St.back, rowAt_aftJ, idsL, idsA, idsLL, List.cons_append, List.nil_append, List.append_nil, Option.map_some, Bool.and_self, Bool.and_true, Bool.true_and, Bool.false_and, Bool.and_false, Bool.not_true, Bool.not_false, Bool.false_eq_true, hf1, hf2, hf3, hf4, hf5, yF, a1, oF, idF, nT, hln, lx, lg, z1, z2, z3, hDy] <;> rfl))
          | ((first | apply W.ret1 | apply W.end1); (iterate 2 (try (simp (disch := omega) only [push_cast, simprocAttr, natNe, List.mem_cons, List.not_mem_nil, TyD.isAgg, Nat.add_assoc, List.map_nil, List.length_nil, beq_self_eq_true, St.back, rowAt_aftJ, idsL, idsA, idsLL, List.cons_append, List.nil_append, List.append_nil, Option.map_some, Bool.and_self, Bool.and_true, Bool.true_and, Bool.false_and, Bool.and_false, Bool.not_true, Bool.not_false, Bool.false_eq_true, hf1, hf2, hf3, hf4, hf5, yF, a1, oF, idF, nT, hln, lx, lg, z1, z2, z3, hDy] <;> rfl))))

        all_goals (show _ = _; rfl)
      have c5 := Propose_good l tr fr i hv
      unfold propF at c5
      rcases prop_cases l tr i (4096 - fr.toNat) fr.toNat with hp | ⟨v, hp, p1, p2, p3⟩
      · rw [hp] at c5
        refine OKat.of_body (rs := [10]) Tryd.func17 rfl (by decide +kernel) rfl (by simp [Tryd.ntmps17]) ?_
        simp only [Tryd.ntmps17]
        repeat' first
          | apply AW.seq | apply AW.region | apply AW.ret | apply AW.block | apply AW.skip | apply AW.exit | apply AW.scope | apply AW.label | apply AWL.nil
          | ((first | (apply W.step cx_ok; decide) | (apply W.gS; rfl; decide) | apply AW.cond); (simp (disch := omega) only [push_cast, simprocAttr, natNe, List.mem_cons, List.not_mem_nil, TyD.isAgg, Nat.add_assoc, List.map_nil, List.length_nil, beq_self_eq_true, St.back, rowAt_aftJ, idsL, idsA, idsLL, List.cons_append, List.nil_append, List.append_nil, Option.map_some, Bool.and_self, Bool.and_true, Bool.true_and, Bool.false_and, Bool.and_false, Bool.not_true, Bool.not_false, Bool.false_eq_true, hf1, hf2, hf3, hf4, hf5, yF, a1, oF, idF, nT, hln, lx, lg, z1, z2, z3, hDy] <;> rfl); all_goals try ((with_reducible intro hI); try first | (cases hI; done) | (simp only [INTS, not_true_eq_false] at hI; try first | (exfalso; omega) | (have hT : True := hI; clear hT hI))))
          | ((apply W.callv cx_ok; decide); (iterate 2 (simp (disch := omega) only [push_cast, simprocAttr, natNe, List.mem_cons, List.not_mem_nil, TyD.isAgg, Nat.add_assoc, List.map_nil, List.length_nil, beq_self_eq_true, St.back, rowAt_aftJ, idsL, idsA, idsLL, List.cons_append, List.nil_append, List.append_nil, Option.map_some, Bool.and_self, Bool.and_true, Bool.true_and, Bool.false_and, Bool.and_false, Bool.not_true, Bool.not_false, Bool.false_eq_true, hf1, hf2, hf3, hf4, hf5, yF, a1, oF, idF, nT, hln, lx, lg, z1, z2, z3, hDy] <;> rfl)); (with_reducible first | exact hs | exact c0 | exact c1 | exact c5); try first | rfl | (simp (disch := omega) only [push_cast, simprocAttr, natNe, List.mem_cons, List.not_mem_nil, TyD.isAgg, Nat.add_assoc, List.map_nil, List.length_nil, beq_self_eq_true, St.back, rowAt_aftJ, idsL, idsA, idsLL, List.cons_append, List.nil_append, List.append_nil, Option.map_some, Bool.and_self, Bool.and_true, Bool.true_and, Bool.false_and, Bool.and_false, Bool.not_true, Bool.not_false, Bool.false_eq_true, hf1, hf2, hf3, hf4, hf5, yF, a1, oF, idF, nT, hln, lx, lg, z1, z2, z3, hDy] <;> rfl))
          | ((first | apply W.ret1 | apply W.end1); (iterate 2 (try (simp (disch := omega) only [push_cast, simprocAttr, natNe, List.mem_cons, List.not_mem_nil, TyD.isAgg, Nat.add_assoc, List.map_nil, List.length_nil, beq_self_eq_true, St.back, rowAt_aftJ, idsL, idsA, idsLL, List.cons_append, List.nil_append, List.append_nil, Option.map_some, Bool.and_self, Bool.and_true, Bool.true_and, Bool.false_and, Bool.and_false, Bool.not_true, Bool.not_false, Bool.false_eq_true, hf1, hf2, hf3, hf4, hf5, yF, a1, oF, idF, nT, hln, lx, lg, z1, z2, z3, hDy] <;> rfl))))

        all_goals (show _ = _; rfl)
      · rw [hp] at c5
        have hmore := cab_more hcab (by omega) (d := DD) (tr := tr) (v := v) (by omega) hv.2.1 (by omega) hlast p3
        have c6 := CheckKeys_ok (l ++ [⟨DD, tr, ((v : Nat) : Int)⟩]) i (by rw [List.length_append, List.length_singleton]; omega)
        rw [hmore] at c6
        have hmm : l.map eKey ++ [[ai DD, ai tr, ai ((v : Nat) : Int)]] = (l ++ [(⟨DD, tr, ((v : Nat) : Int)⟩ : Key)]).map eKey := by rw [List.map_append]; rfl
        have hmlen : (l ++ [(⟨DD, tr, ((v : Nat) : Int)⟩ : Key)]).length = l.length + 1 := by rw [List.length_append, List.length_singleton]
        generalize l ++ [(⟨DD, tr, ((v : Nat) : Int)⟩ : Key)] = LL at *
        have hge : (fr ≤ ((v : Nat) : Int)) = True := eq_true (by omega)
        have hsa : (∀ e ∈ l.map eKey, e.length = 3) = True := eq_true (fun e he => by obtain ⟨x, _, rfl⟩ := List.mem_map.1 he; rfl)
        refine OKat.of_body (rs := [10]) Tryd.func17 rfl (by decide +kernel) rfl (by simp [Tryd.ntmps17]) ?_
        simp only [Tryd.ntmps17]
        repeat' first
          | apply AW.seq | apply AW.region | apply AW.ret | apply AW.block | apply AW.skip | apply AW.exit | apply AW.scope | apply AW.label | apply AWL.nil
          | ((first | (apply W.step cx_ok; decide) | (apply W.gS; rfl; decide) | apply AW.cond); (simp (disch := (first | omega | (simp only [List.length_append, List.length_map, List.length_cons, List.length_nil, List.length_take, List.length_drop]; omega))) only [push_cast, simprocAttr, takeM, dropM, List.take_length, List.length_take, List.length_drop, List.all_append, List.all_cons, List.all_nil, Bool.and_true, Bool.and_self, and_self, and_true, true_and, leT, List.take_of_length_le, pureL, pureA, natNe, List.mem_cons, List.not_mem_nil, TyD.isAgg, Nat.add_assoc, List.map_nil, List.length_nil, beq_self_eq_true, St.back, rowAt_aftJ, idsL, idsA, idsLL, List.cons_append, List.nil_append, List.append_nil, Option.map_some, Bool.true_and, Bool.false_and, Bool.and_false, Bool.not_true, Bool.not_false, Bool.false_eq_true, hf1, hf2, hf3, hf4, hf5, yF, a1, oF, idF, nT, hln, lx, lg, z1, z2, z3, hDy, hge, hmm, hmlen, hsa] <;> rfl); all_goals try ((with_reducible intro hI); try first | (cases hI; done) | (simp only [INTS, not_true_eq_false] at hI; try first | (exfalso; omega) | (have hT : True := hI; clear hT hI))))
          | (apply W.append cx_ok; decide; rfl; rfl; rfl; decide; (iterate 3 (simp (disch := (first | omega | (simp only [List.length_append, List.length_map, List.length_cons, List.length_nil, List.length_take, List.length_drop]; omega))) only [push_cast, simprocAttr, takeM, dropM, List.take_length, List.length_take, List.length_drop, List.all_append, List.all_cons, List.all_nil, Bool.and_true, Bool.and_self, and_self, and_true, true_and, leT, List.take_of_length_le, pureL, pureA, natNe, List.mem_cons, List.not_mem_nil, TyD.isAgg, Nat.add_assoc, List.map_nil, List.length_nil, beq_self_eq_true, St.back, rowAt_aftJ, idsL, idsA, idsLL, List.cons_append, List.nil_append, List.append_nil, Option.map_some, Bool.true_and, Bool.false_and, Bool.and_false, Bool.not_true, Bool.not_false, Bool.false_eq_true, hf1, hf2, hf3, hf4, hf5, yF, a1, oF, idF, nT, hln, lx, lg, z1, z2, z3, hDy, hge, hmm, hmlen, hsa] <;> rfl)); (first | (focus (simp; done)) | (intro c hc; obtain ⟨x, _, rfl⟩ := List.mem_map.1 hc; rfl)); ((first | rfl | simp (disch := omega) only [push_cast])); ((try dsimp only); (try simp only [List.length_map, List.length_append, List.length_cons, List.length_nil, List.length_take, List.length_drop]); omega); ((try dsimp only); (try simp only [List.length_map, List.length_append, List.length_cons, List.length_nil, List.length_take, List.length_drop]); omega))
          | ((apply W.callv cx_ok; decide); (iterate 2 (simp (disch := (first | omega | (simp only [List.length_append, List.length_map, List.length_cons, List.length_nil, List.length_take, List.length_drop]; omega))) only [push_cast, simprocAttr, takeM, dropM, List.take_length, List.length_take, List.length_drop, List.all_append, List.all_cons, List.all_nil, Bool.and_true, Bool.and_self, and_self, and_true, true_and, leT, List.take_of_length_le, pureL, pureA, natNe, List.mem_cons, List.not_mem_nil, TyD.isAgg, Nat.add_assoc, List.map_nil, List.length_nil, beq_self_eq_true, St.back, rowAt_aftJ, idsL, idsA, idsLL, List.cons_append, List.nil_append, List.append_nil, Option.map_some, Bool.true_and, Bool.false_and, Bool.and_false, Bool.not_true, Bool.not_false, Bool.false_eq_true, hf1, hf2, hf3, hf4, hf5, yF, a1, oF, idF, nT, hln, lx, lg, z1, z2, z3, hDy, hge, hmm, hmlen, hsa] <;> rfl)); (with_reducible first | exact hs | exact c0 | exact c1 | exact c5 | exact c6); try first | rfl | (simp (disch := (first | omega | (simp only [List.length_append, List.length_map, List.length_cons, List.length_nil, List.length_take, List.length_drop]; omega))) only [push_cast, simprocAttr, takeM, dropM, List.take_length, List.length_take, List.length_drop, List.all_append, List.all_cons, List.all_nil, Bool.and_true, Bool.and_self, and_self, and_true, true_and, leT, List.take_of_length_le, pureL, pureA, natNe, List.mem_cons, List.not_mem_nil, TyD.isAgg, Nat.add_assoc, List.map_nil, List.length_nil, beq_self_eq_true, St.back, rowAt_aftJ, idsL, idsA, idsLL, List.cons_append, List.nil_append, List.append_nil, Option.map_some, Bool.true_and, Bool.false_and, Bool.and_false, Bool.not_true, Bool.not_false, Bool.false_eq_true, hf1, hf2, hf3, hf4, hf5, yF, a1, oF, idF, nT, hln, lx, lg, z1, z2, z3, hDy, hge, hmm, hmlen, hsa] <;> rfl))
          | ((first | apply W.ret1 | apply W.end1); (iterate 2 (try (simp (disch := (first | omega | (simp only [List.length_append, List.length_map, List.length_cons, List.length_nil, List.length_take, List.length_drop]; omega))) only [push_cast, simprocAttr, takeM, dropM, List.take_length, List.length_take, List.length_drop, List.all_append, List.all_cons, List.all_nil, Bool.and_true, Bool.and_self, and_self, and_true, true_and, leT, List.take_of_length_le, pureL, pureA, natNe, List.mem_cons, List.not_mem_nil, TyD.isAgg, Nat.add_assoc, List.map_nil, List.length_nil, beq_self_eq_true, St.back, rowAt_aftJ, idsL, idsA, idsLL, List.cons_append, List.nil_append, List.append_nil, Option.map_some, Bool.true_and, Bool.false_and, Bool.and_false, Bool.not_true, Bool.not_false, Bool.false_eq_true, hf1, hf2, hf3, hf4, hf5, yF, a1, oF, idF, nT, hln, lx, lg, z1, z2, z3, hDy, hge, hmm, hmlen, hsa] <;> rfl))))

        all_goals (show _ = _; rfl)
end Go.Proofs.Ds
