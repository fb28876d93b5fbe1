/-
  Contracts of functions, proved by going through their code. No conditions.
-/
import Derived.Test.YtkdiplkmcilkmaaDoorDan
import Derived.Test.YtkdiplkmcilkmaaDoorDao
import Derived.Test.YtkdiplkmcilkmaaDoorDaw
import Derived.Test.YtkdiplkmcilkmaaDoorDbb
import Derived.Test.YtkdiplkmcilkmaaDoorDtS
import Derived.Test.YtkdiplkmcilkmaaDoorDtE
import Derived.Test.YtkdiplkmcilkmaaDoorDsE96
set_option linter.unusedVariables false
set_option linter.unusedSimpArgs false
set_option maxHeartbeats 8000000
set_option maxRecDepth 10000
namespace Go.Proofs.Ds
open Go Go.Pg Go.Proofs
theorem twice_cases (k kl : Key) (t0 ap : Int) (b : Blow) (i : Ink) (hk : keyV k = true) (hl : keyV kl = true) :
    (∃ E, E ≠ 0 ∧ OKv cx 37 [.agg (eKey k), .agg (eKey kl), ai t0, ai ap, .agg (eBlow b), .agg (eInk i)] (.tup [.agg (eMark mark0), ai E])) ∨
    (inkV i = true ∧ (0 ≤ b.miss ∧ b.miss ≤ 4095) ∧ (0 ≤ b.dirt ∧ b.dirt ≤ 4095) ∧ (k.id ≠ kl.id ∧ k.track = kl.track ∧ 0 ≤ ap ∧ ap ≤ 60) ∧ strikesI (k.pat.toNat ||| kl.pat.toNat) b.miss.toNat b.dirt.toNat b.shift i = true ∧ OKv cx 37 [.agg (eKey k), .agg (eKey kl), ai t0, ai ap, .agg (eBlow b), .agg (eInk i)] (.tup [.agg (eMark (struckF (k.pat.toNat ||| kl.pat.toNat) k.track ⟨t0, ap⟩ b.miss.toNat b.dirt.toNat b.shift)), ai 0])) := by
  by_cases h : (keyV k = true ∧ keyV kl = true ∧ inkV i = true ∧ inF b.miss 0 4095 = true ∧ inF b.dirt 0 4095 = true ∧ k.id ≠ kl.id ∧ k.track = kl.track ∧ 0 ≤ ap ∧ ap ≤ 60)
  · cases g : strikesI (k.pat.toNat ||| kl.pat.toNat) b.miss.toNat b.dirt.toNat b.shift i with
    | true => exact .inr ⟨h.2.2.1, inF_iff.1 h.2.2.2.1, inF_iff.1 h.2.2.2.2.1, h.2.2.2.2.2, rfl, Twice_good k kl t0 ap b i h _ _ (.inl ⟨g, rfl, rfl⟩)⟩
    | false => exact .inl ⟨3, by decide, Twice_good k kl t0 ap b i h _ _ (.inr ⟨g, rfl, rfl⟩)⟩
  · exact .inl ⟨1, by decide, Twice_bad k kl t0 ap b i h⟩
theorem law14_ok (hs : OKv cx 19 [] (ab true)) (h0 : SortKC0 Tryd.prog 130) (l : List Key) (wx wy t0 ap : Int) (b : Blow) (i : Ink) (be af un : Int) : OKv cx 14 [lKey l, ai wx, ai wy, ai t0, ai ap, .agg (eBlow b), .agg (eInk i), ai be, ai af, ai un] (ab true) := by
  have hf1 : ∀ m e, flatA (.tup [.agg (eMark m), .v e]) = true := fun _ _ => rfl
  have hf2 : ∀ x, flatA (.v x) = true := fun _ => rfl
  have hf3 : ∀ l x, flatA (.tup [.lst l, .v x]) = false := fun _ _ => rfl
  have hf4 : ∀ m, flatA (.agg (eMark m)) = true := fun _ => rfl
  have c0 := Bunch_ok l
  by_cases hl2 : (l.length : Int) < 2
  · have zT := eq_true hl2
    refine OKat.of_body (rs := [20]) Tryd.func14 rfl (by decide +kernel) rfl (by simp [Tryd.ntmps14]) ?_
    simp only [Tryd.ntmps14]
    repeat' first
      | apply AW.seq | apply AW.region | apply AW.ret | apply AW.block | apply AW.skip | apply AW.exit | apply AW.scope | apply AW.label | apply AWL.nil | apply D.nil
      | refine W.draw cx_mixed (by decide +kernel) ?_
      | ((first | (apply W.step cx_ok; decide) | (apply D.step cx_ok; decide; decide) | apply W.store cx_ok | (apply W.gS; rfl; decide) | (apply D.gS; rfl; decide; decide) | apply AW.cond); (simp (disch := omega) only [push_cast, simprocAttr, natNe, List.mem_cons, List.not_mem_nil, TyD.isAgg, Nat.add_assoc, List.map_nil, List.length_nil, beq_self_eq_true, St.back, rowAt_aftJ, idsL, idsA, idsLL, List.cons_append, List.nil_append, List.append_nil, Option.map_some, Bool.and_self, Bool.and_true, Bool.true_and, Bool.false_and, Bool.and_false, Bool.not_true, Bool.not_false, Bool.false_eq_true, hf1, hf2, hf3, hf4, zT] <;> rfl); all_goals try ((with_reducible intro hI); try first | (cases hI; done) | (simp only [INTS, not_true_eq_false] at hI; try first | (exfalso; omega) | (have hT : True := hI; clear hT hI))))
      | ((first | (apply W.callv cx_ok; decide) | (apply D.callv cx_ok; decide; decide)); (iterate 2 (simp (disch := omega) only [push_cast, simprocAttr, natNe, List.mem_cons, List.not_mem_nil, TyD.isAgg, Nat.add_assoc, List.map_nil, List.length_nil, beq_self_eq_true, St.back, rowAt_aftJ, idsL, idsA, idsLL, List.cons_append, List.nil_append, List.append_nil, Option.map_some, Bool.and_self, Bool.and_true, Bool.true_and, Bool.false_and, Bool.and_false, Bool.not_true, Bool.not_false, Bool.false_eq_true, hf1, hf2, hf3, hf4, zT] <;> rfl)); (with_reducible first | exact hs | exact c0); try first | rfl | (simp (disch := omega) only [push_cast, simprocAttr, natNe, List.mem_cons, List.not_mem_nil, TyD.isAgg, Nat.add_assoc, List.map_nil, List.length_nil, beq_self_eq_true, St.back, rowAt_aftJ, idsL, idsA, idsLL, List.cons_append, List.nil_append, List.append_nil, Option.map_some, Bool.and_self, Bool.and_true, Bool.true_and, Bool.false_and, Bool.and_false, Bool.not_true, Bool.not_false, Bool.false_eq_true, hf1, hf2, hf3, hf4, zT] <;> rfl))
      | ((first | apply W.ret1 | apply W.end1); (iterate 2 (try (simp (disch := omega) only [push_cast, simprocAttr, natNe, List.mem_cons, List.not_mem_nil, TyD.isAgg, Nat.add_assoc, List.map_nil, List.length_nil, beq_self_eq_true, St.back, rowAt_aftJ, idsL, idsA, idsLL, List.cons_append, List.nil_append, List.append_nil, Option.map_some, Bool.and_self, Bool.and_true, Bool.true_and, Bool.false_and, Bool.and_false, Bool.not_true, Bool.not_false, Bool.false_eq_true, hf1, hf2, hf3, hf4, zT] <;> rfl))))

    all_goals (show _ = _; rfl)
  have zF := eq_false hl2
  by_cases hl4 : 40 < (l.length : Int)
  · have yT := eq_true hl4
    refine OKat.of_body (rs := [20]) Tryd.func14 rfl (by decide +kernel) rfl (by simp [Tryd.ntmps14]) ?_
    simp only [Tryd.ntmps14]
    repeat' first
      | apply AW.seq | apply AW.region | apply AW.ret | apply AW.block | apply AW.skip | apply AW.exit | apply AW.scope | apply AW.label | apply AWL.nil | apply D.nil
      | refine W.draw cx_mixed (by decide +kernel) ?_
      | ((first | (apply W.step cx_ok; decide) | (apply D.step cx_ok; decide; decide) | apply W.store cx_ok | (apply W.gS; rfl; decide) | (apply D.gS; rfl; decide; decide) | apply AW.cond); (simp (disch := omega) only [push_cast, simprocAttr, natNe, List.mem_cons, List.not_mem_nil, TyD.isAgg, Nat.add_assoc, List.map_nil, List.length_nil, beq_self_eq_true, St.back, rowAt_aftJ, idsL, idsA, idsLL, List.cons_append, List.nil_append, List.append_nil, Option.map_some, Bool.and_self, Bool.and_true, Bool.true_and, Bool.false_and, Bool.and_false, Bool.not_true, Bool.not_false, Bool.false_eq_true, hf1, hf2, hf3, hf4, zF, yT] <;> rfl); all_goals try ((with_reducible intro hI); try first | (cases hI; done) | (simp only [INTS, not_true_eq_false] at hI; try first | (exfalso; omega) | (have hT : True := hI; clear hT hI))))
      | ((first | (apply W.callv cx_ok; decide) | (apply D.callv cx_ok; decide; decide)); (iterate 2 (simp (disch := omega) only [push_cast, simprocAttr, natNe, List.mem_cons, List.not_mem_nil, TyD.isAgg, Nat.add_assoc, List.map_nil, List.length_nil, beq_self_eq_true, St.back, rowAt_aftJ, idsL, idsA, idsLL, List.cons_append, List.nil_append, List.append_nil, Option.map_some, Bool.and_self, Bool.and_true, Bool.true_and, Bool.false_and, Bool.and_false, Bool.not_true, Bool.not_false, Bool.false_eq_true, hf1, hf2, hf3, hf4, zF, yT] <;> rfl)); (with_reducible first | exact hs | exact c0); try first | rfl | (simp (disch := omega) only [push_cast, simprocAttr, natNe, List.mem_cons, List.not_mem_nil, TyD.isAgg, Nat.add_assoc, List.map_nil, List.length_nil, beq_self_eq_true, St.back, rowAt_aftJ, idsL, idsA, idsLL, List.cons_append, List.nil_append, List.append_nil, Option.map_some, Bool.and_self, Bool.and_true, Bool.true_and, Bool.false_and, Bool.and_false, Bool.not_true, Bool.not_false, Bool.false_eq_true, hf1, hf2, hf3, hf4, zF, yT] <;> rfl))
      | ((first | apply W.ret1 | apply W.end1); (iterate 2 (try (simp (disch := omega) only [push_cast, simprocAttr, natNe, List.mem_cons, List.not_mem_nil, TyD.isAgg, Nat.add_assoc, List.map_nil, List.length_nil, beq_self_eq_true, St.back, rowAt_aftJ, idsL, idsA, idsLL, List.cons_append, List.nil_append, List.append_nil, Option.map_some, Bool.and_self, Bool.and_true, Bool.true_and, Bool.false_and, Bool.and_false, Bool.not_true, Bool.not_false, Bool.false_eq_true, hf1, hf2, hf3, hf4, zF, yT] <;> rfl))))

    all_goals (show _ = _; rfl)
  have yF := eq_false hl4
  cases hb : bunchF l with
  | false =>
    rw [hb] at c0
    refine OKat.of_body (rs := [20]) Tryd.func14 rfl (by decide +kernel) rfl (by simp [Tryd.ntmps14]) ?_
    simp only [Tryd.ntmps14]
    repeat' first
      | apply AW.seq | apply AW.region | apply AW.ret | apply AW.block | apply AW.skip | apply AW.exit | apply AW.scope | apply AW.label | apply AWL.nil | apply D.nil
      | refine W.draw cx_mixed (by decide +kernel) ?_
      | ((first | (apply W.step cx_ok; decide) | (apply D.step cx_ok; decide; decide) | apply W.store cx_ok | (apply W.gS; rfl; decide) | (apply D.gS; rfl; decide; decide) | apply AW.cond); (simp (disch := omega) only [push_cast, simprocAttr, natNe, List.mem_cons, List.not_mem_nil, TyD.isAgg, Nat.add_assoc, List.map_nil, List.length_nil, beq_self_eq_true, St.back, rowAt_aftJ, idsL, idsA, idsLL, List.cons_append, List.nil_append, List.append_nil, Option.map_some, Bool.and_self, Bool.and_true, Bool.true_and, Bool.false_and, Bool.and_false, Bool.not_true, Bool.not_false, Bool.false_eq_true, hf1, hf2, hf3, hf4, zF, yF] <;> rfl); all_goals try ((with_reducible intro hI); try first | (cases hI; done) | (simp only [INTS, not_true_eq_false] at hI; try first | (exfalso; omega) | (have hT : True := hI; clear hT hI))))
      | ((first | (apply W.callv cx_ok; decide) | (apply D.callv cx_ok; decide; decide)); (iterate 2 (simp (disch := omega) only [push_cast, simprocAttr, natNe, List.mem_cons, List.not_mem_nil, TyD.isAgg, Nat.add_assoc, List.map_nil, List.length_nil, beq_self_eq_true, St.back, rowAt_aftJ, idsL, idsA, idsLL, List.cons_append, List.nil_append, List.append_nil, Option.map_some, Bool.and_self, Bool.and_true, Bool.true_and, Bool.false_and, Bool.and_false, Bool.not_true, Bool.not_false, Bool.false_eq_true, hf1, hf2, hf3, hf4, zF, yF] <;> rfl)); (with_reducible first | exact hs | exact c0); try first | rfl | (simp (disch := omega) only [push_cast, simprocAttr, natNe, List.mem_cons, List.not_mem_nil, TyD.isAgg, Nat.add_assoc, List.map_nil, List.length_nil, beq_self_eq_true, St.back, rowAt_aftJ, idsL, idsA, idsLL, List.cons_append, List.nil_append, List.append_nil, Option.map_some, Bool.and_self, Bool.and_true, Bool.true_and, Bool.false_and, Bool.and_false, Bool.not_true, Bool.not_false, Bool.false_eq_true, hf1, hf2, hf3, hf4, zF, yF] <;> rfl))
      | ((first | apply W.ret1 | apply W.end1); (iterate 2 (try (simp (disch := omega) only [push_cast, simprocAttr, natNe, List.mem_cons, List.not_mem_nil, TyD.isAgg, Nat.add_assoc, List.map_nil, List.length_nil, beq_self_eq_true, St.back, rowAt_aftJ, idsL, idsA, idsLL, List.cons_append, List.nil_append, List.append_nil, Option.map_some, Bool.and_self, Bool.and_true, Bool.true_and, Bool.false_and, Bool.and_false, Bool.not_true, Bool.not_false, Bool.false_eq_true, hf1, hf2, hf3, hf4, zF, yF] <;> rfl))))

    all_goals (show _ = _; rfl)
  | true =>
  rw [hb] at c0
  have hl0 : (l.length : Int) ≠ 0 := by omega
  have zF0 := eq_false hl0
  have zB0 : ((l.length : Int) == 0) = false := by simpa using hl0
  have c_x := Angle_ok wx
  have d_x := angF_bd wx
  obtain ⟨W_x, hW_x⟩ : ∃ z, angF wx = z := ⟨_, rfl⟩
  rw [hW_x] at c_x d_x
  have hr_x : W_x.tmod (l.length : Int) = W_x % (l.length : Int) := Int.tmod_eq_emod_of_nonneg d_x.1
  have hp_x := Int.emod_nonneg W_x hl0
  have hq_x := Int.emod_lt_of_pos W_x (show 0 < (l.length : Int) by omega)
  obtain ⟨jx, hj_x⟩ : ∃ z : Nat, W_x % (l.length : Int) = z := ⟨(W_x % (l.length : Int)).toNat, by omega⟩
  rw [hj_x] at hr_x hp_x hq_x
  have hn_x : jx < l.length := by omega
  have hx_x := get_map eKey l jx default hn_x
  have hg_x := getD_map eKey l jx [] default hn_x
  have hm_x : l.getD jx default ∈ l := by
    rw [List.getD_eq_getElem?_getD, List.getElem?_eq_getElem hn_x]; exact List.getElem_mem hn_x
  have c_y := Angle_ok wy
  have d_y := angF_bd wy
  obtain ⟨W_y, hW_y⟩ : ∃ z, angF wy = z := ⟨_, rfl⟩
  rw [hW_y] at c_y d_y
  have hr_y : W_y.tmod (l.length : Int) = W_y % (l.length : Int) := Int.tmod_eq_emod_of_nonneg d_y.1
  have hp_y := Int.emod_nonneg W_y hl0
  have hq_y := Int.emod_lt_of_pos W_y (show 0 < (l.length : Int) by omega)
  obtain ⟨jy, hj_y⟩ : ∃ z : Nat, W_y % (l.length : Int) = z := ⟨(W_y % (l.length : Int)).toNat, by omega⟩
  rw [hj_y] at hr_y hp_y hq_y
  have hn_y : jy < l.length := by omega
  have hx_y := get_map eKey l jy default hn_y
  have hg_y := getD_map eKey l jy [] default hn_y
  have hm_y : l.getD jy default ∈ l := by
    rw [List.getD_eq_getElem?_getD, List.getElem?_eq_getElem hn_y]; exact List.getElem_mem hn_y
  have hthere := fun m => @pair_there l m i hb jx jy hn_x hn_y
  generalize l.getD jx default = k at *
  generalize l.getD jy default = kl at *
  have hkv := bunch_key hb k hm_x
  have hlv := bunch_key hb kl hm_y
  rcases twice_cases k kl t0 ap b i hkv hlv with ⟨E, hE, c2⟩ | ⟨hi, hmi, hdi, ⟨w1, w2, w3, w4⟩, hst, c2⟩
  · have eF := eq_false hE
    have eB : (E == 0) = false := by simpa using hE
    clear hthere
    refine OKat.of_body (rs := [20]) Tryd.func14 rfl (by decide +kernel) rfl (by simp [Tryd.ntmps14]) ?_
    simp only [Tryd.ntmps14]
    repeat' first
      | ((first | (apply W.eeN cx_ok; decide) | (apply D.eeN cx_ok; decide; decide)); rfl; rfl; exact E42; (iterate 2 (simp (disch := omega) only [push_cast, simprocAttr, natNe, List.mem_cons, List.not_mem_nil, TyD.isAgg, Nat.add_assoc, List.map_nil, List.length_nil, beq_self_eq_true, St.back, rowAt_aftJ, idsL, idsA, idsLL, List.cons_append, List.nil_append, List.append_nil, Option.map_some, Bool.and_self, Bool.and_true, Bool.true_and, Bool.false_and, Bool.and_false, Bool.not_true, Bool.not_false, Bool.false_eq_true, hf1, hf2, hf3, hf4, zF, yF, zF0, zB0, hr_x, hp_x, hq_x, hn_x, hx_x, hg_x, hr_y, hp_y, hq_y, hn_y, hx_y, hg_y, eF, eB] <;> rfl)); (simp (disch := omega) only [push_cast, simprocAttr, natNe, List.mem_cons, List.not_mem_nil, TyD.isAgg, Nat.add_assoc, List.map_nil, List.length_nil, beq_self_eq_true, St.back, rowAt_aftJ, idsL, idsA, idsLL, List.cons_append, List.nil_append, List.append_nil, Option.map_some, Bool.and_self, Bool.and_true, Bool.true_and, Bool.false_and, Bool.and_false, Bool.not_true, Bool.not_false, Bool.false_eq_true, hf1, hf2, hf3, hf4, zF, yF, zF0, zB0, hr_x, hp_x, hq_x, hn_x, hx_x, hg_x, hr_y, hp_y, hq_y, hn_y, hx_y, hg_y, eF, eB, cellsEqN, cellEqN] <;> rfl))
      | apply AW.seq | apply AW.region | apply AW.ret | apply AW.block | apply AW.skip | apply AW.exit | apply AW.scope | apply AW.label | apply AWL.nil | apply D.nil
      | refine AW.draw (id := 5) cx_mixed [17, 18] [15] [18] 19 (by decide +kernel) ?_
      | refine W.draw cx_mixed (by decide +kernel) ?_
      | ((first | (apply W.step cx_ok; decide) | (apply D.step cx_ok; decide; decide) | apply W.store cx_ok | (apply W.gS; rfl; decide) | (apply D.gS; rfl; decide; decide) | apply AW.cond); (simp (disch := omega) only [push_cast, simprocAttr, natNe, List.mem_cons, List.not_mem_nil, TyD.isAgg, Nat.add_assoc, List.map_nil, List.length_nil, beq_self_eq_true, St.back, rowAt_aftJ, idsL, idsA, idsLL, List.cons_append, List.nil_append, List.append_nil, Option.map_some, Bool.and_self, Bool.and_true, Bool.true_and, Bool.false_and, Bool.and_false, Bool.not_true, Bool.not_false, Bool.false_eq_true, hf1, hf2, hf3, hf4, zF, yF, zF0, zB0, hr_x, hp_x, hq_x, hn_x, hx_x, hg_x, hr_y, hp_y, hq_y, hn_y, hx_y, hg_y, eF, eB] <;> rfl); all_goals try ((with_reducible intro hI); try first | (cases hI; done) | (simp only [INTS, not_true_eq_false] at hI; try first | (exfalso; omega) | (have hT : True := hI; clear hT hI))))
      | ((first | (apply D.store cx_ok; decide) | (apply D.stept cx_ok; decide; decide) | (apply D.stepm cx_ok; decide; decide)); (simp (disch := omega) only [push_cast, simprocAttr, natNe, List.mem_cons, List.not_mem_nil, TyD.isAgg, Nat.add_assoc, List.map_nil, List.length_nil, beq_self_eq_true, St.back, rowAt_aftJ, idsL, idsA, idsLL, List.cons_append, List.nil_append, List.append_nil, Option.map_some, Bool.and_self, Bool.and_true, Bool.true_and, Bool.false_and, Bool.and_false, Bool.not_true, Bool.not_false, Bool.false_eq_true, hf1, hf2, hf3, hf4, zF, yF, zF0, zB0, hr_x, hp_x, hq_x, hn_x, hx_x, hg_x, hr_y, hp_y, hq_y, hn_y, hx_y, hg_y, eF, eB] <;> rfl); try first | exact .inl rfl | exact .inr (by simp))
      | ((apply D.alloc cx_ok; decide; decide); (simp (disch := omega) only [push_cast, simprocAttr, natNe, List.mem_cons, List.not_mem_nil, TyD.isAgg, Nat.add_assoc, List.map_nil, List.length_nil, beq_self_eq_true, St.back, rowAt_aftJ, idsL, idsA, idsLL, List.cons_append, List.nil_append, List.append_nil, Option.map_some, Bool.and_self, Bool.and_true, Bool.true_and, Bool.false_and, Bool.and_false, Bool.not_true, Bool.not_false, Bool.false_eq_true, hf1, hf2, hf3, hf4, zF, yF, zF0, zB0, hr_x, hp_x, hq_x, hn_x, hx_x, hg_x, hr_y, hp_y, hq_y, hn_y, hx_y, hg_y, eF, eB] <;> rfl); (simp (disch := omega) only [push_cast, simprocAttr, natNe, List.mem_cons, List.not_mem_nil, TyD.isAgg, Nat.add_assoc, List.map_nil, List.length_nil, beq_self_eq_true, St.back, rowAt_aftJ, idsL, idsA, idsLL, List.cons_append, List.nil_append, List.append_nil, Option.map_some, Bool.and_self, Bool.and_true, Bool.true_and, Bool.false_and, Bool.and_false, Bool.not_true, Bool.not_false, Bool.false_eq_true, hf1, hf2, hf3, hf4, zF, yF, zF0, zB0, hr_x, hp_x, hq_x, hn_x, hx_x, hg_x, hr_y, hp_y, hq_y, hn_y, hx_y, hg_y, eF, eB, updH_at, Nat.add_assoc]); (simp (disch := omega) only [push_cast, simprocAttr, natNe, List.mem_cons, List.not_mem_nil, TyD.isAgg, Nat.add_assoc, List.map_nil, List.length_nil, beq_self_eq_true, St.back, rowAt_aftJ, idsL, idsA, idsLL, List.cons_append, List.nil_append, List.append_nil, Option.map_some, Bool.and_self, Bool.and_true, Bool.true_and, Bool.false_and, Bool.and_false, Bool.not_true, Bool.not_false, Bool.false_eq_true, hf1, hf2, hf3, hf4, zF, yF, zF0, zB0, hr_x, hp_x, hq_x, hn_x, hx_x, hg_x, hr_y, hp_y, hq_y, hn_y, hx_y, hg_y, eF, eB] <;> omega))
      | ((apply D.alloct cx_ok; decide; decide); (simp (disch := omega) only [push_cast, simprocAttr, natNe, List.mem_cons, List.not_mem_nil, TyD.isAgg, Nat.add_assoc, List.map_nil, List.length_nil, beq_self_eq_true, St.back, rowAt_aftJ, idsL, idsA, idsLL, List.cons_append, List.nil_append, List.append_nil, Option.map_some, Bool.and_self, Bool.and_true, Bool.true_and, Bool.false_and, Bool.and_false, Bool.not_true, Bool.not_false, Bool.false_eq_true, hf1, hf2, hf3, hf4, zF, yF, zF0, zB0, hr_x, hp_x, hq_x, hn_x, hx_x, hg_x, hr_y, hp_y, hq_y, hn_y, hx_y, hg_y, eF, eB] <;> rfl); first | exact .inl rfl | exact .inr (by simp))
      | ((first | (apply W.callv cx_ok; decide) | (apply D.callv cx_ok; decide; decide) | (apply D.callvt cx_ok; decide; decide)); (iterate 2 (simp (disch := omega) only [push_cast, simprocAttr, natNe, List.mem_cons, List.not_mem_nil, TyD.isAgg, Nat.add_assoc, List.map_nil, List.length_nil, beq_self_eq_true, St.back, rowAt_aftJ, idsL, idsA, idsLL, List.cons_append, List.nil_append, List.append_nil, Option.map_some, Bool.and_self, Bool.and_true, Bool.true_and, Bool.false_and, Bool.and_false, Bool.not_true, Bool.not_false, Bool.false_eq_true, hf1, hf2, hf3, hf4, zF, yF, zF0, zB0, hr_x, hp_x, hq_x, hn_x, hx_x, hg_x, hr_y, hp_y, hq_y, hn_y, hx_y, hg_y, eF, eB] <;> rfl)); (with_reducible first | exact hs | exact c0 | exact c_x | exact c_y | exact c2); try first | rfl | (simp (disch := omega) only [push_cast, simprocAttr, natNe, List.mem_cons, List.not_mem_nil, TyD.isAgg, Nat.add_assoc, List.map_nil, List.length_nil, beq_self_eq_true, St.back, rowAt_aftJ, idsL, idsA, idsLL, List.cons_append, List.nil_append, List.append_nil, Option.map_some, Bool.and_self, Bool.and_true, Bool.true_and, Bool.false_and, Bool.and_false, Bool.not_true, Bool.not_false, Bool.false_eq_true, hf1, hf2, hf3, hf4, zF, yF, zF0, zB0, hr_x, hp_x, hq_x, hn_x, hx_x, hg_x, hr_y, hp_y, hq_y, hn_y, hx_y, hg_y, eF, eB] <;> rfl))
      | ((first | apply W.ret1 | apply W.end1); (iterate 2 (try (simp (disch := omega) only [push_cast, simprocAttr, natNe, List.mem_cons, List.not_mem_nil, TyD.isAgg, Nat.add_assoc, List.map_nil, List.length_nil, beq_self_eq_true, St.back, rowAt_aftJ, idsL, idsA, idsLL, List.cons_append, List.nil_append, List.append_nil, Option.map_some, Bool.and_self, Bool.and_true, Bool.true_and, Bool.false_and, Bool.and_false, Bool.not_true, Bool.not_false, Bool.false_eq_true, hf1, hf2, hf3, hf4, zF, yF, zF0, zB0, hr_x, hp_x, hq_x, hn_x, hx_x, hg_x, hr_y, hp_y, hq_y, hn_y, hx_y, hg_y, eF, eB] <;> rfl))))

    all_goals (show _ = _; rfl)
  · obtain ⟨k1, k2, k3, k4⟩ := keyV_iff.1 hkv
    obtain ⟨q1, q2, q3, q4⟩ := keyV_iff.1 hlv
    obtain ⟨i1, i2, i3, i4⟩ := inkV_iff.1 hi
    obtain ⟨_, _, s3, s4⟩ := strikesI_iff.1 hst
    have hPl : (k.pat.toNat ||| kl.pat.toNat) < 4096 := or_lt (by omega) (by omega)
    have hmk := mark_struck (p := k.pat.toNat ||| kl.pat.toNat) (mi := b.miss.toNat) (di := b.dirt.toNat) (tr := k.track) (t0 := t0) (ap := ap) (s := b.shift) hPl (by omega) k2 ⟨w3, w4⟩
    have hal := fun U V => allow_blur (p := k.pat.toNat ||| kl.pat.toNat) (mi := b.miss.toNat) (di := b.dirt.toNat) (s := b.shift) (i := i) hPl (by omega) hst U V
    obtain ⟨m, hm⟩ : ∃ z, struckF (k.pat.toNat ||| kl.pat.toNat) k.track ⟨t0, ap⟩ b.miss.toNat b.dirt.toNat b.shift = z := ⟨_, rfl⟩
    have m1 : m.arc.len = ap := by rw [← hm]; rfl
    have m3 : m.track = k.track := by rw [← hm]; rfl
    have m4 : m.seen.toNat = seenF (k.pat.toNat ||| kl.pat.toNat) b.miss.toNat b.dirt.toNat := by rw [← hm]; rfl
    have m5 : m.blank.toNat = dropB 4095 (seenF (k.pat.toNat ||| kl.pat.toNat) b.miss.toNat b.dirt.toNat) := by rw [← hm]; rfl
    rw [hm] at c2 hmk
    have c3 := blurred_ok m be af un hmk
    have hbk := mark_blur hmk (by omega) be af un
    have c4 := Sharpen_good h0 (blurM m be af un) m ⟨hbk, hmk⟩
    rw [sharp_blur hmk (by omega)] at c4
    have c5 := Pairs_good l (blurM m be af un) i ⟨hb, hbk, hi⟩
    have hmd : madeF ⟨0, k.track, ((k.pat.toNat ||| kl.pat.toNat : Nat) : Int)⟩ (blurM m be af un) i = true := by
      unfold madeF
      rw [Bool.and_eq_true]
      refine ⟨decide_eq_true m3.symm, ?_⟩
      have := hal (lowN un) (lowN (shrV un))
      rw [← m4, show dropB 4095 (m.seen.toNat) = m.blank.toNat by rw [m5, m4]] at this
      exact this
    have hany := hthere _ w1 w2 hmd
    have hpl := pairs_len (blurM m be af un) i l
    have hll : l.length * l.length ≤ 40 * 40 := Nat.mul_le_mul (by omega) (by omega)
    obtain ⟨MN, hMN⟩ : ∃ z, min k.id kl.id = z := ⟨_, rfl⟩
    obtain ⟨MX, hMX⟩ : ∃ z, max k.id kl.id = z := ⟨_, rfl⟩
    rw [hMN, hMX] at hany
    generalize pairsF l (blurM m be af un) i = PF at *
    generalize blurM m be af un = BM at *
    clear hm hmd hal m1 m3 m4 m5 hthere
    refine OKat.of_body (rs := [20]) Tryd.func14 rfl (by decide +kernel) rfl (by simp [Tryd.ntmps14]) ?_
    simp only [Tryd.ntmps14]
    repeat' first
      | apply AW.seq | apply AW.region | apply AW.ret | apply AW.block | apply AW.skip | apply AW.exit | apply AW.scope | apply AW.label | apply AWL.nil | apply D.nil
      | refine AW.draw (id := 5) cx_mixed [17, 18] [15] [18] 19 (by decide +kernel) ?_
      | refine W.draw cx_mixed (by decide +kernel) ?_
      | ((first | (apply W.step cx_ok; decide) | (apply D.step cx_ok; decide; decide) | apply W.store cx_ok | (apply W.gS; rfl; decide) | (apply D.gS; rfl; decide; decide) | apply AW.cond); (simp (disch := omega) only [push_cast, simprocAttr, natNe, List.mem_cons, List.not_mem_nil, TyD.isAgg, Nat.add_assoc, List.map_nil, List.length_nil, beq_self_eq_true, St.back, rowAt_aftJ, idsL, idsA, idsLL, List.cons_append, List.nil_append, List.append_nil, Option.map_some, Bool.and_self, Bool.and_true, Bool.true_and, Bool.false_and, Bool.and_false, Bool.not_true, Bool.not_false, Bool.false_eq_true, hf1, hf2, hf3, hf4, zF, yF, zF0, zB0, hr_x, hp_x, hq_x, hn_x, hx_x, hg_x, hr_y, hp_y, hq_y, hn_y, hx_y, hg_y] <;> rfl); all_goals try ((with_reducible intro hI); try first | (cases hI; done) | (simp only [INTS, not_true_eq_false] at hI; try first | (exfalso; omega) | (have hT : True := hI; clear hT hI))))
      | ((first | (apply D.store cx_ok; decide) | (apply D.stept cx_ok; decide; decide) | (apply D.stepm cx_ok; decide; decide)); (simp (disch := omega) only [push_cast, simprocAttr, natNe, List.mem_cons, List.not_mem_nil, TyD.isAgg, Nat.add_assoc, List.map_nil, List.length_nil, beq_self_eq_true, St.back, rowAt_aftJ, idsL, idsA, idsLL, List.cons_append, List.nil_append, List.append_nil, Option.map_some, Bool.and_self, Bool.and_true, Bool.true_and, Bool.false_and, Bool.and_false, Bool.not_true, Bool.not_false, Bool.false_eq_true, hf1, hf2, hf3, hf4, zF, yF, zF0, zB0, hr_x, hp_x, hq_x, hn_x, hx_x, hg_x, hr_y, hp_y, hq_y, hn_y, hx_y, hg_y] <;> rfl); try first | exact .inl rfl | exact .inr (by simp))
      | ((apply D.alloc cx_ok; decide; decide); (simp (disch := omega) only [push_cast, simprocAttr, natNe, List.mem_cons, List.not_mem_nil, TyD.isAgg, Nat.add_assoc, List.map_nil, List.length_nil, beq_self_eq_true, St.back, rowAt_aftJ, idsL, idsA, idsLL, List.cons_append, List.nil_append, List.append_nil, Option.map_some, Bool.and_self, Bool.and_true, Bool.true_and, Bool.false_and, Bool.and_false, Bool.not_true, Bool.not_false, Bool.false_eq_true, hf1, hf2, hf3, hf4, zF, yF, zF0, zB0, hr_x, hp_x, hq_x, hn_x, hx_x, hg_x, hr_y, hp_y, hq_y, hn_y, hx_y, hg_y] <;> rfl); (simp (disch := omega) only [push_cast, simprocAttr, natNe, List.mem_cons, List.not_mem_nil, TyD.isAgg, Nat.add_assoc, List.map_nil, List.length_nil, beq_self_eq_true, St.back, rowAt_aftJ, idsL, idsA, idsLL, List.cons_append, List.nil_append, List.append_nil, Option.map_some, Bool.and_self, Bool.and_true, Bool.true_and, Bool.false_and, Bool.and_false, Bool.not_true, Bool.not_false, Bool.false_eq_true, hf1, hf2, hf3, hf4, zF, yF, zF0, zB0, hr_x, hp_x, hq_x, hn_x, hx_x, hg_x, hr_y, hp_y, hq_y, hn_y, hx_y, hg_y, updH_at, Nat.add_assoc]); (simp (disch := omega) only [push_cast, simprocAttr, natNe, List.mem_cons, List.not_mem_nil, TyD.isAgg, Nat.add_assoc, List.map_nil, List.length_nil, beq_self_eq_true, St.back, rowAt_aftJ, idsL, idsA, idsLL, List.cons_append, List.nil_append, List.append_nil, Option.map_some, Bool.and_self, Bool.and_true, Bool.true_and, Bool.false_and, Bool.and_false, Bool.not_true, Bool.not_false, Bool.false_eq_true, hf1, hf2, hf3, hf4, zF, yF, zF0, zB0, hr_x, hp_x, hq_x, hn_x, hx_x, hg_x, hr_y, hp_y, hq_y, hn_y, hx_y, hg_y] <;> omega))
      | ((apply D.alloct cx_ok; decide; decide); (simp (disch := omega) only [push_cast, simprocAttr, natNe, List.mem_cons, List.not_mem_nil, TyD.isAgg, Nat.add_assoc, List.map_nil, List.length_nil, beq_self_eq_true, St.back, rowAt_aftJ, idsL, idsA, idsLL, List.cons_append, List.nil_append, List.append_nil, Option.map_some, Bool.and_self, Bool.and_true, Bool.true_and, Bool.false_and, Bool.and_false, Bool.not_true, Bool.not_false, Bool.false_eq_true, hf1, hf2, hf3, hf4, zF, yF, zF0, zB0, hr_x, hp_x, hq_x, hn_x, hx_x, hg_x, hr_y, hp_y, hq_y, hn_y, hx_y, hg_y] <;> rfl); first | exact .inl rfl | exact .inr (by simp))
      | ((first | (apply W.callv cx_ok; decide) | (apply D.callv cx_ok; decide; decide) | (apply D.callvt cx_ok; decide; decide)); (iterate 2 (simp (disch := omega) only [push_cast, simprocAttr, natNe, List.mem_cons, List.not_mem_nil, TyD.isAgg, Nat.add_assoc, List.map_nil, List.length_nil, beq_self_eq_true, St.back, rowAt_aftJ, idsL, idsA, idsLL, List.cons_append, List.nil_append, List.append_nil, Option.map_some, Bool.and_self, Bool.and_true, Bool.true_and, Bool.false_and, Bool.and_false, Bool.not_true, Bool.not_false, Bool.false_eq_true, hf1, hf2, hf3, hf4, zF, yF, zF0, zB0, hr_x, hp_x, hq_x, hn_x, hx_x, hg_x, hr_y, hp_y, hq_y, hn_y, hx_y, hg_y] <;> rfl)); (with_reducible first | exact hs | exact c0 | exact c_x | exact c_y | exact c2 | exact c3 | exact c4 | exact c5); try first | rfl | (simp (disch := omega) only [push_cast, simprocAttr, natNe, List.mem_cons, List.not_mem_nil, TyD.isAgg, Nat.add_assoc, List.map_nil, List.length_nil, beq_self_eq_true, St.back, rowAt_aftJ, idsL, idsA, idsLL, List.cons_append, List.nil_append, List.append_nil, Option.map_some, Bool.and_self, Bool.and_true, Bool.true_and, Bool.false_and, Bool.and_false, Bool.not_true, Bool.not_false, Bool.false_eq_true, hf1, hf2, hf3, hf4, zF, yF, zF0, zB0, hr_x, hp_x, hq_x, hn_x, hx_x, hg_x, hr_y, hp_y, hq_y, hn_y, hx_y, hg_y] <;> rfl))
      | ((first | apply W.ret1 | apply W.end1); (iterate 2 (try (simp (disch := omega) only [push_cast, simprocAttr, natNe, List.mem_cons, List.not_mem_nil, TyD.isAgg, Nat.add_assoc, List.map_nil, List.length_nil, beq_self_eq_true, St.back, rowAt_aftJ, idsL, idsA, idsLL, List.cons_append, List.nil_append, List.append_nil, Option.map_some, Bool.and_self, Bool.and_true, Bool.true_and, Bool.false_and, Bool.and_false, Bool.not_true, Bool.not_false, Bool.false_eq_true, hf1, hf2, hf3, hf4, zF, yF, zF0, zB0, hr_x, hp_x, hq_x, hn_x, hx_x, hg_x, hr_y, hp_y, hq_y, hn_y, hx_y, hg_y] <;> rfl))))

    refine AW.freeze (t := 23) (v := .iptr (eMark m) 0) (by simp (disch := omega) only [push_cast, simprocAttr, natNe, List.mem_cons, List.not_mem_nil, TyD.isAgg, Nat.add_assoc, List.map_nil, List.length_nil, beq_self_eq_true, St.back, rowAt_aftJ, idsL, idsA, idsLL, List.cons_append, List.nil_append, List.append_nil, Option.map_some, Bool.and_self, Bool.and_true, Bool.true_and, Bool.false_and, Bool.and_false, Bool.not_true, Bool.not_false, Bool.false_eq_true, hf1, hf2, hf3, hf4, zF, yF, zF0, zB0, hr_x, hp_x, hq_x, hn_x, hx_x, hg_x, hr_y, hp_y, hq_y, hn_y, hx_y, hg_y] <;> rfl) ?_
    refine AW.freeze (t := 26) (v := .iptr (eMark m) 0) (by simp (disch := omega) only [push_cast, simprocAttr, natNe, List.mem_cons, List.not_mem_nil, TyD.isAgg, Nat.add_assoc, List.map_nil, List.length_nil, beq_self_eq_true, St.back, rowAt_aftJ, idsL, idsA, idsLL, List.cons_append, List.nil_append, List.append_nil, Option.map_some, Bool.and_self, Bool.and_true, Bool.true_and, Bool.false_and, Bool.and_false, Bool.not_true, Bool.not_false, Bool.false_eq_true, hf1, hf2, hf3, hf4, zF, yF, zF0, zB0, hr_x, hp_x, hq_x, hn_x, hx_x, hg_x, hr_y, hp_y, hq_y, hn_y, hx_y, hg_y, rowAt_frzG] <;> rfl) ?_
    refine AW.loop (fun n s => ∃ (j : Nat) (IS : Bool) (rest : List (Int × Int)), n = rest.length ∧ (PF.drop j = rest) ∧ ((IS || anyP rest MN MX) = true) ∧ s.tm 0 = lKey l ∧ s.tm 21 = ai jx ∧ s.tm 22 = ai jy ∧ s.tm 23 = .iptr (eMark m) 0 ∧ s.tm 26 = .iptr (eMark m) 0 ∧ s.tm 27 = ai 0 ∧ s.tm 28 = lPair PF ∧ s.tm 29 = ai 0 ∧ s.tm 30 = ab IS ∧ s.tm 31 = ai j) (PF.length) ⟨0, false, PF, rfl, rfl, (by rw [Bool.false_or]; exact hany), ?_, ?_, ?_, ?_, ?_, ?_, ?_, ?_, ?_, ?_⟩ ?_
    iterate 10 (first | (simp (disch := omega) only [push_cast, simprocAttr, natNe, List.mem_cons, List.not_mem_nil, TyD.isAgg, Nat.add_assoc, List.map_nil, List.length_nil, beq_self_eq_true, St.back, rowAt_aftJ, idsL, idsA, idsLL, List.cons_append, List.nil_append, List.append_nil, Option.map_some, Bool.and_self, Bool.and_true, Bool.true_and, Bool.false_and, Bool.and_false, Bool.not_true, Bool.not_false, Bool.false_eq_true, hf1, hf2, hf3, hf4, zF, yF, zF0, zB0, hr_x, hp_x, hq_x, hn_x, hx_x, hg_x, hr_y, hp_y, hq_y, hn_y, hx_y, hg_y] <;> first | rfl | omega) | omega)
    rintro n1 s1 ⟨j1, IS1, rest1, hn1, hp01, hp11, hS1⟩
    rcases rest1 with _ | ⟨p, rest1⟩
    · have hk := drop_nil hp01
      have hIS : IS1 = true := by rw [show anyP ([] : List (Int × Int)) MN MX = false from rfl, Bool.or_false] at hp11; exact hp11
      subst hIS
      repeat' first
        | ((first | (apply W.eeN cx_ok; decide) | (apply D.eeN cx_ok; decide; decide)); rfl; rfl; exact E42; (iterate 2 (simp (disch := omega) only [push_cast, simprocAttr, hS1, natNe, List.mem_cons, List.not_mem_nil, TyD.isAgg, Nat.add_assoc, List.map_nil, List.length_nil, beq_self_eq_true, St.back, rowAt_aftJ, idsL, idsA, idsLL, List.cons_append, List.nil_append, List.append_nil, Option.map_some, Bool.and_self, Bool.and_true, Bool.true_and, Bool.false_and, Bool.and_false, Bool.not_true, Bool.not_false, Bool.false_eq_true, hf1, hf2, hf3, hf4, hk] <;> rfl)); (simp (disch := omega) only [push_cast, simprocAttr, hS1, natNe, List.mem_cons, List.not_mem_nil, TyD.isAgg, Nat.add_assoc, List.map_nil, List.length_nil, beq_self_eq_true, St.back, rowAt_aftJ, idsL, idsA, idsLL, List.cons_append, List.nil_append, List.append_nil, Option.map_some, Bool.and_self, Bool.and_true, Bool.true_and, Bool.false_and, Bool.and_false, Bool.not_true, Bool.not_false, Bool.false_eq_true, hf1, hf2, hf3, hf4, hk, cellsEqN, cellEqN] <;> rfl))
        | apply AW.seq | apply AW.region | apply AW.ret | apply AW.block | apply AW.skip | apply AW.exit | apply AW.scope | apply AW.label | apply AWL.nil | apply D.nil
        | refine W.draw cx_mixed (by decide +kernel) ?_
        | ((first | (apply W.step cx_ok; decide) | (apply D.step cx_ok; decide; decide) | apply W.store cx_ok | (apply W.gS; rfl; decide) | (apply D.gS; rfl; decide; decide) | apply AW.cond); (simp (disch := omega) only [push_cast, simprocAttr, hS1, natNe, List.mem_cons, List.not_mem_nil, TyD.isAgg, Nat.add_assoc, List.map_nil, List.length_nil, beq_self_eq_true, St.back, rowAt_aftJ, idsL, idsA, idsLL, List.cons_append, List.nil_append, List.append_nil, Option.map_some, Bool.and_self, Bool.and_true, Bool.true_and, Bool.false_and, Bool.and_false, Bool.not_true, Bool.not_false, Bool.false_eq_true, hf1, hf2, hf3, hf4, hk] <;> rfl); all_goals try ((with_reducible intro hI); try first | (cases hI; done) | (simp only [INTS, not_true_eq_false] at hI; try first | (exfalso; omega) | (have hT : True := hI; clear hT hI))))
        | ((first | (apply W.callv cx_ok; decide) | (apply D.callv cx_ok; decide; decide)); (iterate 2 (simp (disch := omega) only [push_cast, simprocAttr, hS1, natNe, List.mem_cons, List.not_mem_nil, TyD.isAgg, Nat.add_assoc, List.map_nil, List.length_nil, beq_self_eq_true, St.back, rowAt_aftJ, idsL, idsA, idsLL, List.cons_append, List.nil_append, List.append_nil, Option.map_some, Bool.and_self, Bool.and_true, Bool.true_and, Bool.false_and, Bool.and_false, Bool.not_true, Bool.not_false, Bool.false_eq_true, hf1, hf2, hf3, hf4, hk] <;> rfl)); (with_reducible first | exact hs); try first | rfl | (simp (disch := omega) only [push_cast, simprocAttr, hS1, natNe, List.mem_cons, List.not_mem_nil, TyD.isAgg, Nat.add_assoc, List.map_nil, List.length_nil, beq_self_eq_true, St.back, rowAt_aftJ, idsL, idsA, idsLL, List.cons_append, List.nil_append, List.append_nil, Option.map_some, Bool.and_self, Bool.and_true, Bool.true_and, Bool.false_and, Bool.and_false, Bool.not_true, Bool.not_false, Bool.false_eq_true, hf1, hf2, hf3, hf4, hk] <;> rfl))
        | ((first | apply W.ret1 | apply W.end1); (iterate 2 (try (simp (disch := omega) only [push_cast, simprocAttr, hS1, natNe, List.mem_cons, List.not_mem_nil, TyD.isAgg, Nat.add_assoc, List.map_nil, List.length_nil, beq_self_eq_true, St.back, rowAt_aftJ, idsL, idsA, idsLL, List.cons_append, List.nil_append, List.append_nil, Option.map_some, Bool.and_self, Bool.and_true, Bool.true_and, Bool.false_and, Bool.and_false, Bool.not_true, Bool.not_false, Bool.false_eq_true, hf1, hf2, hf3, hf4, hk] <;> rfl))))

      all_goals (show _ = _; rfl)
    obtain ⟨hk, hg, hd', hl', hm', hx⟩ := drop_cons hp01 ePair []
    cases hIS : IS1 with
    | true =>
      rw [hIS] at hS1 hp11
      have hp' : (true || anyP rest1 MN MX) = true := rfl
      repeat' first
        | ((first | (apply W.eePair cx_ok; decide) | (apply D.eePair cx_ok; decide; decide)); exact E96; (iterate 2 (simp (disch := omega) only [push_cast, simprocAttr, hS1, natNe, List.mem_cons, List.not_mem_nil, TyD.isAgg, Nat.add_assoc, List.map_nil, List.length_nil, beq_self_eq_true, St.back, rowAt_aftJ, idsL, idsA, idsLL, List.cons_append, List.nil_append, List.append_nil, Option.map_some, Bool.and_self, Bool.and_true, Bool.true_and, Bool.false_and, Bool.and_false, Bool.not_true, Bool.not_false, Bool.false_eq_true, hr_x, hp_x, hq_x, hn_x, hx_x, hg_x, hr_y, hp_y, hq_y, hn_y, hx_y, hg_y, hk, hg, hx, hMN, hMX] <;> rfl)))
        | apply AW.seq | apply AW.region | apply AW.ret | apply AW.block | apply AW.skip | apply AW.exit | apply AW.scope | apply AW.label | apply AWL.nil | apply D.nil
        | refine W.draw cx_mixed (by decide +kernel) ?_
        | ((first | (apply W.step cx_ok; decide) | (apply D.step cx_ok; decide; decide) | apply W.store cx_ok | (apply W.gS; rfl; decide) | (apply D.gS; rfl; decide; decide) | apply AW.cond); (simp (disch := omega) only [push_cast, simprocAttr, hS1, natNe, List.mem_cons, List.not_mem_nil, TyD.isAgg, Nat.add_assoc, List.map_nil, List.length_nil, beq_self_eq_true, St.back, rowAt_aftJ, idsL, idsA, idsLL, List.cons_append, List.nil_append, List.append_nil, Option.map_some, Bool.and_self, Bool.and_true, Bool.true_and, Bool.false_and, Bool.and_false, Bool.not_true, Bool.not_false, Bool.false_eq_true, hr_x, hp_x, hq_x, hn_x, hx_x, hg_x, hr_y, hp_y, hq_y, hn_y, hx_y, hg_y, hk, hg, hx, hMN, hMX] <;> rfl); all_goals try ((with_reducible intro hI); try first | (cases hI; done) | (simp only [INTS, not_true_eq_false] at hI; try first | (exfalso; omega) | (have hT : True := hI; clear hT hI))))
        | ((first | apply W.ret1 | apply W.end1); (iterate 2 (try (simp (disch := omega) only [push_cast, simprocAttr, hS1, natNe, List.mem_cons, List.not_mem_nil, TyD.isAgg, Nat.add_assoc, List.map_nil, List.length_nil, beq_self_eq_true, St.back, rowAt_aftJ, idsL, idsA, idsLL, List.cons_append, List.nil_append, List.append_nil, Option.map_some, Bool.and_self, Bool.and_true, Bool.true_and, Bool.false_and, Bool.and_false, Bool.not_true, Bool.not_false, Bool.false_eq_true, hr_x, hp_x, hq_x, hn_x, hx_x, hg_x, hr_y, hp_y, hq_y, hn_y, hx_y, hg_y, hk, hg, hx, hMN, hMX] <;> rfl))))

      all_goals (refine ⟨rest1.length, ?_, j1 + 1, true, rest1, rfl, hd', hp', ?_, ?_, ?_, ?_, ?_, ?_, ?_, ?_, ?_, ?_⟩; ((simp only [List.length_cons] at *; omega)); all_goals first | (simp (disch := omega) only [push_cast, simprocAttr, hS1, natNe, List.mem_cons, List.not_mem_nil, TyD.isAgg, Nat.add_assoc, List.map_nil, List.length_nil, beq_self_eq_true, St.back, rowAt_aftJ, idsL, idsA, idsLL, List.cons_append, List.nil_append, List.append_nil, Option.map_some, Bool.and_self, Bool.and_true, Bool.true_and, Bool.false_and, Bool.and_false, Bool.not_true, Bool.not_false, Bool.false_eq_true, hr_x, hp_x, hq_x, hn_x, hx_x, hg_x, hr_y, hp_y, hq_y, hn_y, hx_y, hg_y, hk, hg, hx, hMN, hMX] <;> first | rfl | omega) | omega)
    | false =>
      rw [hIS] at hS1 hp11
      have hp' : ((p.1 == MN && p.2 == MX) || anyP rest1 MN MX) = true := by rw [Bool.false_or] at hp11; exact hp11
      repeat' first
        | ((first | (apply W.eePair cx_ok; decide) | (apply D.eePair cx_ok; decide; decide)); exact E96; (iterate 2 (simp (disch := omega) only [push_cast, simprocAttr, hS1, natNe, List.mem_cons, List.not_mem_nil, TyD.isAgg, Nat.add_assoc, List.map_nil, List.length_nil, beq_self_eq_true, St.back, rowAt_aftJ, idsL, idsA, idsLL, List.cons_append, List.nil_append, List.append_nil, Option.map_some, Bool.and_self, Bool.and_true, Bool.true_and, Bool.false_and, Bool.and_false, Bool.not_true, Bool.not_false, Bool.false_eq_true, hr_x, hp_x, hq_x, hn_x, hx_x, hg_x, hr_y, hp_y, hq_y, hn_y, hx_y, hg_y, hk, hg, hx, hMN, hMX] <;> rfl)))
        | apply AW.seq | apply AW.region | apply AW.ret | apply AW.block | apply AW.skip | apply AW.exit | apply AW.scope | apply AW.label | apply AWL.nil | apply D.nil
        | refine W.draw cx_mixed (by decide +kernel) ?_
        | ((first | (apply W.step cx_ok; decide) | (apply D.step cx_ok; decide; decide) | apply W.store cx_ok | (apply W.gS; rfl; decide) | (apply D.gS; rfl; decide; decide) | apply AW.cond); (simp (disch := omega) only [push_cast, simprocAttr, hS1, natNe, List.mem_cons, List.not_mem_nil, TyD.isAgg, Nat.add_assoc, List.map_nil, List.length_nil, beq_self_eq_true, St.back, rowAt_aftJ, idsL, idsA, idsLL, List.cons_append, List.nil_append, List.append_nil, Option.map_some, Bool.and_self, Bool.and_true, Bool.true_and, Bool.false_and, Bool.and_false, Bool.not_true, Bool.not_false, Bool.false_eq_true, hr_x, hp_x, hq_x, hn_x, hx_x, hg_x, hr_y, hp_y, hq_y, hn_y, hx_y, hg_y, hk, hg, hx, hMN, hMX] <;> rfl); all_goals try ((with_reducible intro hI); try first | (cases hI; done) | (simp only [INTS, not_true_eq_false] at hI; try first | (exfalso; omega) | (have hT : True := hI; clear hT hI))))
        | ((first | apply W.ret1 | apply W.end1); (iterate 2 (try (simp (disch := omega) only [push_cast, simprocAttr, hS1, natNe, List.mem_cons, List.not_mem_nil, TyD.isAgg, Nat.add_assoc, List.map_nil, List.length_nil, beq_self_eq_true, St.back, rowAt_aftJ, idsL, idsA, idsLL, List.cons_append, List.nil_append, List.append_nil, Option.map_some, Bool.and_self, Bool.and_true, Bool.true_and, Bool.false_and, Bool.and_false, Bool.not_true, Bool.not_false, Bool.false_eq_true, hr_x, hp_x, hq_x, hn_x, hx_x, hg_x, hr_y, hp_y, hq_y, hn_y, hx_y, hg_y, hk, hg, hx, hMN, hMX] <;> rfl))))

      all_goals (refine ⟨rest1.length, ?_, j1 + 1, (p.1 == MN && p.2 == MX), rest1, rfl, hd', hp', ?_, ?_, ?_, ?_, ?_, ?_, ?_, ?_, ?_, ?_⟩; ((simp only [List.length_cons] at *; omega)); all_goals first | (simp (disch := omega) only [push_cast, simprocAttr, hS1, natNe, List.mem_cons, List.not_mem_nil, TyD.isAgg, Nat.add_assoc, List.map_nil, List.length_nil, beq_self_eq_true, St.back, rowAt_aftJ, idsL, idsA, idsLL, List.cons_append, List.nil_append, List.append_nil, Option.map_some, Bool.and_self, Bool.and_true, Bool.true_and, Bool.false_and, Bool.and_false, Bool.not_true, Bool.not_false, Bool.false_eq_true, hr_x, hp_x, hq_x, hn_x, hx_x, hg_x, hr_y, hp_y, hq_y, hn_y, hx_y, hg_y, hk, hg, hx, hMN, hMX] <;> first | rfl | omega) | omega)
end Go.Proofs.Ds
