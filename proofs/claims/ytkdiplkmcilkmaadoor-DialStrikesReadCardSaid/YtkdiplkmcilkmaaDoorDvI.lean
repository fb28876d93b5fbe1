/-
  Contracts of functions, proved by going through their code. No conditions.
-/
import Derived.Test.YtkdiplkmcilkmaaDoorDbb
import Derived.Test.YtkdiplkmcilkmaaDoorDtQ
import Derived.Test.YtkdiplkmcilkmaaDoorDtN
set_option linter.unusedVariables false
set_option linter.unusedSimpArgs false
set_option maxHeartbeats 8000000
set_option maxRecDepth 10000
namespace Go.Proofs.Ds
open Go Go.Pg Go.Proofs
theorem strike_cases (k : Key) (t0 : Int) (b : Blow) (i : Ink) (hk : keyV k = true) :
    (∃ E, E ≠ 0 ∧ OKv cx 35 [.agg (eKey k), ai t0, .agg (eBlow b), .agg (eInk i)] (.tup [.agg (eMark mark0), ai E])) ∨
    (inkV i = true ∧ (0 ≤ b.miss ∧ b.miss ≤ 4095) ∧ (0 ≤ b.dirt ∧ b.dirt ≤ 4095) ∧ strikesI k.pat.toNat b.miss.toNat b.dirt.toNat b.shift i = true ∧ OKv cx 35 [.agg (eKey k), ai t0, .agg (eBlow b), .agg (eInk i)] (.tup [.agg (eMark (struckF k.pat.toNat k.track ⟨t0, 0⟩ b.miss.toNat b.dirt.toNat b.shift)), ai 0])) := by
  by_cases h : keyV k = true ∧ inkV i = true ∧ inF b.miss 0 4095 = true ∧ inF b.dirt 0 4095 = true
  · obtain ⟨h1, h2, h3, h4⟩ := h
    cases g : strikesI k.pat.toNat b.miss.toNat b.dirt.toNat b.shift i with
    | true => exact .inr ⟨h2, inF_iff.1 h3, inF_iff.1 h4, rfl, Strike_good k t0 b i h1 h2 (inF_iff.1 h3) (inF_iff.1 h4) _ _ (.inl ⟨g, rfl, rfl⟩)⟩
    | false => exact .inl ⟨3, by decide, Strike_good k t0 b i h1 h2 (inF_iff.1 h3) (inF_iff.1 h4) _ _ (.inr ⟨g, rfl, rfl⟩)⟩
  · exact .inl ⟨1, by decide, Strike_bad k t0 b i h⟩
theorem makers_len (l : List Key) (m : Mark) (i : Ink) : (makersF l m i).length ≤ l.length := by
  unfold makersF
  rw [List.length_map]
  exact List.length_filter_le _ _
theorem law11_ok (hs : OKv cx 19 [] (ab true)) (h0 : SortKC0 Tryd.prog 130) (l : List Key) (wh t0 : Int) (b : Blow) (i : Ink) (be af un : Int) : OKv cx 11 [lKey l, ai wh, ai t0, .agg (eBlow b), .agg (eInk i), ai be, ai af, ai un] (ab true) := by
  have hf1 : ∀ m e, flatA (.tup [.agg (eMark m), .v e]) = true := fun _ _ => rfl
  have hf2 : ∀ x, flatA (.v x) = true := fun _ => rfl
  have hf3 : ∀ l x, flatA (.tup [.lst l, .v x]) = false := fun _ _ => rfl
  have hf4 : ∀ m, flatA (.agg (eMark m)) = true := fun _ => rfl
  have c0 := Bunch_ok l
  by_cases hl0 : (l.length : Int) = 0
  · have zT := eq_true hl0
    have zB : ((l.length : Int) == 0) = true := by simpa using hl0
    refine OKat.of_body (rs := [16]) Tryd.func11 rfl (by decide +kernel) rfl (by simp [Tryd.ntmps11]) ?_
    simp only [Tryd.ntmps11]
    repeat' first
      | apply AW.seq | apply AW.region | apply AW.ret | apply AW.block | apply AW.skip | apply AW.exit | apply AW.scope | apply AW.label | apply AWL.nil
      | ((first | (apply W.step cx_ok; decide) | apply W.store cx_ok | (apply W.gS; rfl; decide) | apply AW.cond); (simp (disch := omega) only [push_cast, simprocAttr, natNe, List.mem_cons, List.not_mem_nil, TyD.isAgg, Nat.add_assoc, List.map_nil, List.length_nil, beq_self_eq_true, St.back, rowAt_aftJ, idsL, idsA, idsLL, List.cons_append, List.nil_append, List.append_nil, Option.map_some, Bool.and_self, Bool.and_true, Bool.true_and, Bool.false_and, Bool.and_false, Bool.not_true, Bool.not_false, Bool.false_eq_true, hf1, hf2, hf3, hf4, zT, zB] <;> rfl); all_goals try ((with_reducible intro hI); try first | (cases hI; done) | (simp only [INTS, not_true_eq_false] at hI; try first | (exfalso; omega) | (have hT : True := hI; clear hT hI))))
      | ((apply W.callv cx_ok; decide); (iterate 2 (simp (disch := omega) only [push_cast, simprocAttr, natNe, List.mem_cons, List.not_mem_nil, TyD.isAgg, Nat.add_assoc, List.map_nil, List.length_nil, beq_self_eq_true, St.back, rowAt_aftJ, idsL, idsA, idsLL, List.cons_append, List.nil_append, List.append_nil, Option.map_some, Bool.and_self, Bool.and_true, Bool.true_and, Bool.false_and, Bool.and_false, Bool.not_true, Bool.not_false, Bool.false_eq_true, hf1, hf2, hf3, hf4, zT, zB] <;> rfl)); (with_reducible first | exact hs | exact c0); try first | rfl | (simp (disch := omega) only [push_cast, simprocAttr, natNe, List.mem_cons, List.not_mem_nil, TyD.isAgg, Nat.add_assoc, List.map_nil, List.length_nil, beq_self_eq_true, St.back, rowAt_aftJ, idsL, idsA, idsLL, List.cons_append, List.nil_append, List.append_nil, Option.map_some, Bool.and_self, Bool.and_true, Bool.true_and, Bool.false_and, Bool.and_false, Bool.not_true, Bool.not_false, Bool.false_eq_true, hf1, hf2, hf3, hf4, zT, zB] <;> rfl))
      | ((first | apply W.ret1 | apply W.end1); (iterate 2 (try (simp (disch := omega) only [push_cast, simprocAttr, natNe, List.mem_cons, List.not_mem_nil, TyD.isAgg, Nat.add_assoc, List.map_nil, List.length_nil, beq_self_eq_true, St.back, rowAt_aftJ, idsL, idsA, idsLL, List.cons_append, List.nil_append, List.append_nil, Option.map_some, Bool.and_self, Bool.and_true, Bool.true_and, Bool.false_and, Bool.and_false, Bool.not_true, Bool.not_false, Bool.false_eq_true, hf1, hf2, hf3, hf4, zT, zB] <;> rfl))))

    all_goals (show _ = _; rfl)
  have zF := eq_false hl0
  have zB : ((l.length : Int) == 0) = false := by simpa using hl0
  by_cases hl4 : 40 < (l.length : Int)
  · have yT := eq_true hl4
    refine OKat.of_body (rs := [16]) Tryd.func11 rfl (by decide +kernel) rfl (by simp [Tryd.ntmps11]) ?_
    simp only [Tryd.ntmps11]
    repeat' first
      | apply AW.seq | apply AW.region | apply AW.ret | apply AW.block | apply AW.skip | apply AW.exit | apply AW.scope | apply AW.label | apply AWL.nil
      | ((first | (apply W.step cx_ok; decide) | apply W.store cx_ok | (apply W.gS; rfl; decide) | apply AW.cond); (simp (disch := omega) only [push_cast, simprocAttr, natNe, List.mem_cons, List.not_mem_nil, TyD.isAgg, Nat.add_assoc, List.map_nil, List.length_nil, beq_self_eq_true, St.back, rowAt_aftJ, idsL, idsA, idsLL, List.cons_append, List.nil_append, List.append_nil, Option.map_some, Bool.and_self, Bool.and_true, Bool.true_and, Bool.false_and, Bool.and_false, Bool.not_true, Bool.not_false, Bool.false_eq_true, hf1, hf2, hf3, hf4, zF, zB, yT] <;> rfl); all_goals try ((with_reducible intro hI); try first | (cases hI; done) | (simp only [INTS, not_true_eq_false] at hI; try first | (exfalso; omega) | (have hT : True := hI; clear hT hI))))
      | ((apply W.callv cx_ok; decide); (iterate 2 (simp (disch := omega) only [push_cast, simprocAttr, natNe, List.mem_cons, List.not_mem_nil, TyD.isAgg, Nat.add_assoc, List.map_nil, List.length_nil, beq_self_eq_true, St.back, rowAt_aftJ, idsL, idsA, idsLL, List.cons_append, List.nil_append, List.append_nil, Option.map_some, Bool.and_self, Bool.and_true, Bool.true_and, Bool.false_and, Bool.and_false, Bool.not_true, Bool.not_false, Bool.false_eq_true, hf1, hf2, hf3, hf4, zF, zB, yT] <;> rfl)); (with_reducible first | exact hs | exact c0); try first | rfl | (simp (disch := omega) only [push_cast, simprocAttr, natNe, List.mem_cons, List.not_mem_nil, TyD.isAgg, Nat.add_assoc, List.map_nil, List.length_nil, beq_self_eq_true, St.back, rowAt_aftJ, idsL, idsA, idsLL, List.cons_append, List.nil_append, List.append_nil, Option.map_some, Bool.and_self, Bool.and_true, Bool.true_and, Bool.false_and, Bool.and_false, Bool.not_true, Bool.not_false, Bool.false_eq_true, hf1, hf2, hf3, hf4, zF, zB, yT] <;> rfl))
      | ((first | apply W.ret1 | apply W.end1); (iterate 2 (try (simp (disch := omega) only [push_cast, simprocAttr, natNe, List.mem_cons, List.not_mem_nil, TyD.isAgg, Nat.add_assoc, List.map_nil, List.length_nil, beq_self_eq_true, St.back, rowAt_aftJ, idsL, idsA, idsLL, List.cons_append, List.nil_append, List.append_nil, Option.map_some, Bool.and_self, Bool.and_true, Bool.true_and, Bool.false_and, Bool.and_false, Bool.not_true, Bool.not_false, Bool.false_eq_true, hf1, hf2, hf3, hf4, zF, zB, yT] <;> rfl))))

    all_goals (show _ = _; rfl)
  have yF := eq_false hl4
  cases hb : bunchF l with
  | false =>
    rw [hb] at c0
    refine OKat.of_body (rs := [16]) Tryd.func11 rfl (by decide +kernel) rfl (by simp [Tryd.ntmps11]) ?_
    simp only [Tryd.ntmps11]
    repeat' first
      | apply AW.seq | apply AW.region | apply AW.ret | apply AW.block | apply AW.skip | apply AW.exit | apply AW.scope | apply AW.label | apply AWL.nil
      | ((first | (apply W.step cx_ok; decide) | apply W.store cx_ok | (apply W.gS; rfl; decide) | apply AW.cond); (simp (disch := omega) only [push_cast, simprocAttr, natNe, List.mem_cons, List.not_mem_nil, TyD.isAgg, Nat.add_assoc, List.map_nil, List.length_nil, beq_self_eq_true, St.back, rowAt_aftJ, idsL, idsA, idsLL, List.cons_append, List.nil_append, List.append_nil, Option.map_some, Bool.and_self, Bool.and_true, Bool.true_and, Bool.false_and, Bool.and_false, Bool.not_true, Bool.not_false, Bool.false_eq_true, hf1, hf2, hf3, hf4, zF, zB, yF] <;> rfl); all_goals try ((with_reducible intro hI); try first | (cases hI; done) | (simp only [INTS, not_true_eq_false] at hI; try first | (exfalso; omega) | (have hT : True := hI; clear hT hI))))
      | ((apply W.callv cx_ok; decide); (iterate 2 (simp (disch := omega) only [push_cast, simprocAttr, natNe, List.mem_cons, List.not_mem_nil, TyD.isAgg, Nat.add_assoc, List.map_nil, List.length_nil, beq_self_eq_true, St.back, rowAt_aftJ, idsL, idsA, idsLL, List.cons_append, List.nil_append, List.append_nil, Option.map_some, Bool.and_self, Bool.and_true, Bool.true_and, Bool.false_and, Bool.and_false, Bool.not_true, Bool.not_false, Bool.false_eq_true, hf1, hf2, hf3, hf4, zF, zB, yF] <;> rfl)); (with_reducible first | exact hs | exact c0); try first | rfl | (simp (disch := omega) only [push_cast, simprocAttr, natNe, List.mem_cons, List.not_mem_nil, TyD.isAgg, Nat.add_assoc, List.map_nil, List.length_nil, beq_self_eq_true, St.back, rowAt_aftJ, idsL, idsA, idsLL, List.cons_append, List.nil_append, List.append_nil, Option.map_some, Bool.and_self, Bool.and_true, Bool.true_and, Bool.false_and, Bool.and_false, Bool.not_true, Bool.not_false, Bool.false_eq_true, hf1, hf2, hf3, hf4, zF, zB, yF] <;> rfl))
      | ((first | apply W.ret1 | apply W.end1); (iterate 2 (try (simp (disch := omega) only [push_cast, simprocAttr, natNe, List.mem_cons, List.not_mem_nil, TyD.isAgg, Nat.add_assoc, List.map_nil, List.length_nil, beq_self_eq_true, St.back, rowAt_aftJ, idsL, idsA, idsLL, List.cons_append, List.nil_append, List.append_nil, Option.map_some, Bool.and_self, Bool.and_true, Bool.true_and, Bool.false_and, Bool.and_false, Bool.not_true, Bool.not_false, Bool.false_eq_true, hf1, hf2, hf3, hf4, zF, zB, yF] <;> rfl))))

    all_goals (show _ = _; rfl)
  | true =>
  rw [hb] at c0
  have c1 := Angle_ok wh
  have d1 := angF_bd wh
  obtain ⟨WW, hW⟩ : ∃ z, angF wh = z := ⟨_, rfl⟩
  rw [hW] at c1 d1
  have hrem : WW.tmod (l.length : Int) = WW % (l.length : Int) := Int.tmod_eq_emod_of_nonneg d1.1
  have hm1 := Int.emod_nonneg WW hl0
  have hm2 := Int.emod_lt_of_pos WW (show 0 < (l.length : Int) by omega)
  obtain ⟨jj, hjj⟩ : ∃ z : Nat, WW % (l.length : Int) = z := ⟨(WW % (l.length : Int)).toNat, by omega⟩
  rw [hjj] at hrem hm1 hm2
  have hjn : jj < l.length := by omega
  have hx := get_map eKey l jj default hjn
  have hg := getD_map eKey l jj [] default hjn
  have hmem : l.getD jj default ∈ l := by
    rw [List.getD_eq_getElem?_getD, List.getElem?_eq_getElem hjn]; exact List.getElem_mem hjn
  generalize l.getD jj default = k at *
  have hkv := bunch_key hb k hmem
  rcases strike_cases k t0 b i hkv with ⟨E, hE, c2⟩ | ⟨hi, hmi, hdi, hst, c2⟩
  · have eF := eq_false hE
    have eB : (E == 0) = false := by simpa using hE
    refine OKat.of_body (rs := [16]) Tryd.func11 rfl (by decide +kernel) rfl (by simp [Tryd.ntmps11]) ?_
    simp only [Tryd.ntmps11]
    repeat' first
      | ((first | (apply W.eeN cx_ok; decide) | (apply D.eeN cx_ok; decide; decide)); rfl; rfl; exact E42; (iterate 2 (simp (disch := omega) only [push_cast, simprocAttr, natNe, List.mem_cons, List.not_mem_nil, TyD.isAgg, Nat.add_assoc, List.map_nil, List.length_nil, beq_self_eq_true, St.back, rowAt_aftJ, idsL, idsA, idsLL, List.cons_append, List.nil_append, List.append_nil, Option.map_some, Bool.and_self, Bool.and_true, Bool.true_and, Bool.false_and, Bool.and_false, Bool.not_true, Bool.not_false, Bool.false_eq_true, hf1, hf2, hf3, hf4, zF, zB, yF, hrem, hm1, hm2, hjn, hx, hg, eF, eB] <;> rfl)); (simp (disch := omega) only [push_cast, simprocAttr, natNe, List.mem_cons, List.not_mem_nil, TyD.isAgg, Nat.add_assoc, List.map_nil, List.length_nil, beq_self_eq_true, St.back, rowAt_aftJ, idsL, idsA, idsLL, List.cons_append, List.nil_append, List.append_nil, Option.map_some, Bool.and_self, Bool.and_true, Bool.true_and, Bool.false_and, Bool.and_false, Bool.not_true, Bool.not_false, Bool.false_eq_true, hf1, hf2, hf3, hf4, zF, zB, yF, hrem, hm1, hm2, hjn, hx, hg, eF, eB, cellsEqN, cellEqN] <;> rfl))
      | apply AW.seq | apply AW.region | apply AW.ret | apply AW.block | apply AW.skip | apply AW.exit | apply AW.scope | apply AW.label | apply AWL.nil
      | ((first | (apply W.step cx_ok; decide) | apply W.store cx_ok | (apply W.gS; rfl; decide) | apply AW.cond); (simp (disch := omega) only [push_cast, simprocAttr, natNe, List.mem_cons, List.not_mem_nil, TyD.isAgg, Nat.add_assoc, List.map_nil, List.length_nil, beq_self_eq_true, St.back, rowAt_aftJ, idsL, idsA, idsLL, List.cons_append, List.nil_append, List.append_nil, Option.map_some, Bool.and_self, Bool.and_true, Bool.true_and, Bool.false_and, Bool.and_false, Bool.not_true, Bool.not_false, Bool.false_eq_true, hf1, hf2, hf3, hf4, zF, zB, yF, hrem, hm1, hm2, hjn, hx, hg, eF, eB] <;> rfl); all_goals try ((with_reducible intro hI); try first | (cases hI; done) | (simp only [INTS, not_true_eq_false] at hI; try first | (exfalso; omega) | (have hT : True := hI; clear hT hI))))
      | ((apply W.callv cx_ok; decide); (iterate 2 (simp (disch := omega) only [push_cast, simprocAttr, natNe, List.mem_cons, List.not_mem_nil, TyD.isAgg, Nat.add_assoc, List.map_nil, List.length_nil, beq_self_eq_true, St.back, rowAt_aftJ, idsL, idsA, idsLL, List.cons_append, List.nil_append, List.append_nil, Option.map_some, Bool.and_self, Bool.and_true, Bool.true_and, Bool.false_and, Bool.and_false, Bool.not_true, Bool.not_false, Bool.false_eq_true, hf1, hf2, hf3, hf4, zF, zB, yF, hrem, hm1, hm2, hjn, hx, hg, eF, eB] <;> rfl)); (with_reducible first | exact hs | exact c0 | exact c1 | exact c2); try first | rfl | (simp (disch := omega) only [push_cast, simprocAttr, natNe, List.mem_cons, List.not_mem_nil, TyD.isAgg, Nat.add_assoc, List.map_nil, List.length_nil, beq_self_eq_true, St.back, rowAt_aftJ, idsL, idsA, idsLL, List.cons_append, List.nil_append, List.append_nil, Option.map_some, Bool.and_self, Bool.and_true, Bool.true_and, Bool.false_and, Bool.and_false, Bool.not_true, Bool.not_false, Bool.false_eq_true, hf1, hf2, hf3, hf4, zF, zB, yF, hrem, hm1, hm2, hjn, hx, hg, eF, eB] <;> rfl))
      | ((first | apply W.ret1 | apply W.end1); (iterate 2 (try (simp (disch := omega) only [push_cast, simprocAttr, natNe, List.mem_cons, List.not_mem_nil, TyD.isAgg, Nat.add_assoc, List.map_nil, List.length_nil, beq_self_eq_true, St.back, rowAt_aftJ, idsL, idsA, idsLL, List.cons_append, List.nil_append, List.append_nil, Option.map_some, Bool.and_self, Bool.and_true, Bool.true_and, Bool.false_and, Bool.and_false, Bool.not_true, Bool.not_false, Bool.false_eq_true, hf1, hf2, hf3, hf4, zF, zB, yF, hrem, hm1, hm2, hjn, hx, hg, eF, eB] <;> rfl))))

    all_goals (show _ = _; rfl)
  · obtain ⟨k1, k2, k3, k4⟩ := keyV_iff.1 hkv
    obtain ⟨i1, i2, i3, i4⟩ := inkV_iff.1 hi
    obtain ⟨_, _, s3, s4⟩ := strikesI_iff.1 hst
    have hmk := mark_struck (p := k.pat.toNat) (mi := b.miss.toNat) (di := b.dirt.toNat) (tr := k.track) (t0 := t0) (ap := 0) (s := b.shift) (by omega) (by omega) k2 (by omega)
    have hal := fun U V => allow_blur (p := k.pat.toNat) (mi := b.miss.toNat) (di := b.dirt.toNat) (s := b.shift) (i := i) (by omega) (by omega) hst U V
    obtain ⟨m, hm⟩ : ∃ z, struckF k.pat.toNat k.track ⟨t0, 0⟩ b.miss.toNat b.dirt.toNat b.shift = z := ⟨_, rfl⟩
    have m1 : m.arc.len = 0 := by rw [← hm]; rfl
    have m2 : m.arc.from_ = angF (angF t0 + b.shift) := by rw [← hm]; rfl
    have m3 : m.track = k.track := by rw [← hm]; rfl
    have m4 : m.seen.toNat = seenF k.pat.toNat b.miss.toNat b.dirt.toNat := by rw [← hm]; rfl
    have m5 : m.blank.toNat = dropB 4095 (seenF k.pat.toNat b.miss.toNat b.dirt.toNat) := by rw [← hm]; rfl
    rw [hm] at c2 hmk
    have c3 := blurred_ok m be af un hmk
    have hbk := mark_blur hmk (by omega) be af un
    have c4 := Sharpen_good h0 (blurM m be af un) m ⟨hbk, hmk⟩
    rw [sharp_blur hmk (by omega)] at c4
    have c5 := Makers_good l (blurM m be af un) i ⟨hb, hbk, hi⟩
    have hmd : madeF k (blurM m be af un) i = true := by
      unfold madeF
      rw [Bool.and_eq_true]
      refine ⟨decide_eq_true m3.symm, ?_⟩
      have := hal (lowN un) (lowN (shrV un))
      rw [← m4, show dropB 4095 (m.seen.toNat) = m.blank.toNat by rw [m5, m4]] at this
      exact this
    have c6 := Angles_good k (blurM m be af un) i hkv hbk hi
    rw [if_pos hmd] at c6
    have c7 := within_ok (makersF l (blurM m be af un) i) k.id (by have := makers_len l (blurM m be af un) i; omega)
    rw [within_makers hmem hmd] at c7
    have c8 := has_ok [wideF (blurM m be af un).arc i.slip] t0 (by simp)
    rw [show hasL [wideF (blurM m be af un).arc i.slip] t0 = true by unfold hasL; rw [List.any_cons, near_blur hmk (by omega) be af un i3 m2 ⟨s3, s4⟩]; rfl] at c8
    generalize makersF l (blurM m be af un) i = MK at *
    generalize [wideF (blurM m be af un).arc i.slip] = AW0 at *
    generalize blurM m be af un = BM at *
    clear hm hmd hal m1 m2 m3 m4 m5
    refine OKat.of_body (rs := [16]) Tryd.func11 rfl (by decide +kernel) rfl (by simp [Tryd.ntmps11]) ?_
    simp only [Tryd.ntmps11]
    repeat' first
      | ((first | (apply W.eeN cx_ok; decide) | (apply D.eeN cx_ok; decide; decide)); rfl; rfl; exact E42; (iterate 2 (simp (disch := omega) only [push_cast, simprocAttr, natNe, List.mem_cons, List.not_mem_nil, TyD.isAgg, Nat.add_assoc, List.map_nil, List.length_nil, beq_self_eq_true, St.back, rowAt_aftJ, idsL, idsA, idsLL, List.cons_append, List.nil_append, List.append_nil, Option.map_some, Bool.and_self, Bool.and_true, Bool.true_and, Bool.false_and, Bool.and_false, Bool.not_true, Bool.not_false, Bool.false_eq_true, hf1, hf2, hf3, hf4, zF, zB, yF, hrem, hm1, hm2, hjn, hx, hg] <;> rfl)); (simp (disch := omega) only [push_cast, simprocAttr, natNe, List.mem_cons, List.not_mem_nil, TyD.isAgg, Nat.add_assoc, List.map_nil, List.length_nil, beq_self_eq_true, St.back, rowAt_aftJ, idsL, idsA, idsLL, List.cons_append, List.nil_append, List.append_nil, Option.map_some, Bool.and_self, Bool.and_true, Bool.true_and, Bool.false_and, Bool.and_false, Bool.not_true, Bool.not_false, Bool.false_eq_true, hf1, hf2, hf3, hf4, zF, zB, yF, hrem, hm1, hm2, hjn, hx, hg, cellsEqN, cellEqN] <;> rfl))
      | apply AW.seq | apply AW.region | apply AW.ret | apply AW.block | apply AW.skip | apply AW.exit | apply AW.scope | apply AW.label | apply AWL.nil
      | ((first | (apply W.step cx_ok; decide) | apply W.store cx_ok | (apply W.gS; rfl; decide) | apply AW.cond); (simp (disch := omega) only [push_cast, simprocAttr, natNe, List.mem_cons, List.not_mem_nil, TyD.isAgg, Nat.add_assoc, List.map_nil, List.length_nil, beq_self_eq_true, St.back, rowAt_aftJ, idsL, idsA, idsLL, List.cons_append, List.nil_append, List.append_nil, Option.map_some, Bool.and_self, Bool.and_true, Bool.true_and, Bool.false_and, Bool.and_false, Bool.not_true, Bool.not_false, Bool.false_eq_true, hf1, hf2, hf3, hf4, zF, zB, yF, hrem, hm1, hm2, hjn, hx, hg] <;> rfl); all_goals try ((with_reducible intro hI); try first | (cases hI; done) | (simp only [INTS, not_true_eq_false] at hI; try first | (exfalso; omega) | (have hT : True := hI; clear hT hI))))
      | ((apply W.callv cx_ok; decide); (iterate 2 (simp (disch := omega) only [push_cast, simprocAttr, natNe, List.mem_cons, List.not_mem_nil, TyD.isAgg, Nat.add_assoc, List.map_nil, List.length_nil, beq_self_eq_true, St.back, rowAt_aftJ, idsL, idsA, idsLL, List.cons_append, List.nil_append, List.append_nil, Option.map_some, Bool.and_self, Bool.and_true, Bool.true_and, Bool.false_and, Bool.and_false, Bool.not_true, Bool.not_false, Bool.false_eq_true, hf1, hf2, hf3, hf4, zF, zB, yF, hrem, hm1, hm2, hjn, hx, hg] <;> rfl)); (with_reducible first | exact hs | exact c0 | exact c1 | exact c2 | exact c3 | exact c4 | exact c5 | exact c6 | exact c7 | exact c8); try first | rfl | (simp (disch := omega) only [push_cast, simprocAttr, natNe, List.mem_cons, List.not_mem_nil, TyD.isAgg, Nat.add_assoc, List.map_nil, List.length_nil, beq_self_eq_true, St.back, rowAt_aftJ, idsL, idsA, idsLL, List.cons_append, List.nil_append, List.append_nil, Option.map_some, Bool.and_self, Bool.and_true, Bool.true_and, Bool.false_and, Bool.and_false, Bool.not_true, Bool.not_false, Bool.false_eq_true, hf1, hf2, hf3, hf4, zF, zB, yF, hrem, hm1, hm2, hjn, hx, hg] <;> rfl))
      | ((first | apply W.ret1 | apply W.end1); (iterate 2 (try (simp (disch := omega) only [push_cast, simprocAttr, natNe, List.mem_cons, List.not_mem_nil, TyD.isAgg, Nat.add_assoc, List.map_nil, List.length_nil, beq_self_eq_true, St.back, rowAt_aftJ, idsL, idsA, idsLL, List.cons_append, List.nil_append, List.append_nil, Option.map_some, Bool.and_self, Bool.and_true, Bool.true_and, Bool.false_and, Bool.and_false, Bool.not_true, Bool.not_false, Bool.false_eq_true, hf1, hf2, hf3, hf4, zF, zB, yF, hrem, hm1, hm2, hjn, hx, hg] <;> rfl))))

    all_goals (show _ = _; rfl)
end Go.Proofs.Ds
