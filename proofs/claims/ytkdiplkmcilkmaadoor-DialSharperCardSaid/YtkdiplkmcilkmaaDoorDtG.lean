/-
  Contracts of functions, proved by going through their code. No conditions.
-/
import Derived.Test.YtkdiplkmcilkmaaDoorDtF
import Derived.Test.YtkdiplkmcilkmaaDoorDtC
set_option linter.unusedVariables false
set_option linter.unusedSimpArgs false
set_option maxHeartbeats 8000000
set_option maxRecDepth 10000
namespace Go.Proofs.Ds
open Go Go.Pg Go.Proofs
def sharpenF (a b : Mark) : Mark × Int :=
  if a.track ≠ b.track ∨ (a.seen.toNat ||| b.seen.toNat) &&& (a.blank.toNat ||| b.blank.toNat) ≠ 0 then (mark0, 9) else
  match arcsF (meetF (spansS [a.arc]) (spansS [b.arc])) with
  | [] => (mark0, 5)
  | [x] => (⟨x, a.track, (a.seen.toNat ||| b.seen.toNat : Nat), (a.blank.toNat ||| b.blank.toNat : Nat)⟩, 0)
  | _ => (mark0, 3)
theorem Sharpen_bad (a b : Mark) (h : ¬ (markV a = true ∧ markV b = true)) : OKv cx 66 [.agg (eMark a), .agg (eMark b)] (.tup [.agg (eMark mark0), ai 1]) := by
  have c1 := CheckMark_ok a
  have c2 := CheckMark_ok b
  cases h1 : markV a with
  | false =>
    rw [h1] at c1
    rw [if_neg Bool.false_ne_true] at c1
    refine OKat.of_bodyM cx_ok (rs := [.cell 4 42, .tmp 5]) Tryd.func66 rfl (by decide +kernel) rfl (by simp [Tryd.ntmps66]) ?_
    simp only [Tryd.ntmps66]
    repeat' first
      | apply AW.seq | apply AW.region | apply AW.ret | apply AW.block | apply AW.skip | apply AW.exit | apply AW.scope | apply AW.label | apply AWL.nil
      | ((first | (apply W.step cx_ok; decide) | apply W.store cx_ok | (apply W.gS; rfl; decide) | apply AW.cond); (simp (disch := omega) only [push_cast, simprocAttr, natNe, List.mem_cons, List.not_mem_nil, TyD.isAgg, Nat.add_assoc, List.map_nil, List.length_nil, Bool.and_self, Bool.and_true, Bool.true_and, Bool.false_and, Bool.and_false, Bool.not_true, Bool.not_false, Bool.false_eq_true] <;> rfl); all_goals try ((with_reducible intro hI); try first | (cases hI; done) | (simp only [INTS, not_true_eq_false] at hI; try first | (exfalso; omega) | (have hT : True := hI; clear hT hI))))
      | ((apply W.callv cx_ok; decide); (iterate 2 (simp (disch := omega) only [push_cast, simprocAttr, natNe, List.mem_cons, List.not_mem_nil, TyD.isAgg, Nat.add_assoc, List.map_nil, List.length_nil, Bool.and_self, Bool.and_true, Bool.true_and, Bool.false_and, Bool.and_false, Bool.not_true, Bool.not_false, Bool.false_eq_true] <;> rfl)); (with_reducible first | exact c1 | exact c2); try first | rfl | (simp (disch := omega) only [push_cast, simprocAttr, natNe, List.mem_cons, List.not_mem_nil, TyD.isAgg, Nat.add_assoc, List.map_nil, List.length_nil, Bool.and_self, Bool.and_true, Bool.true_and, Bool.false_and, Bool.and_false, Bool.not_true, Bool.not_false, Bool.false_eq_true] <;> rfl))
      | ((first | apply W.retM | apply W.endM'); (iterate 2 (try (simp (disch := omega) only [push_cast, simprocAttr, natNe, List.mem_cons, List.not_mem_nil, TyD.isAgg, Nat.add_assoc, List.map_nil, List.length_nil, Bool.and_self, Bool.and_true, Bool.true_and, Bool.false_and, Bool.and_false, Bool.not_true, Bool.not_false, Bool.false_eq_true] <;> rfl))))

    all_goals (show _ = _; rfl)
  | true =>
  rw [h1] at c1
  rw [if_pos rfl] at c1
  cases h2 : markV b with
  | false =>
    rw [h2] at c2
    rw [if_neg Bool.false_ne_true] at c2
    refine OKat.of_bodyM cx_ok (rs := [.cell 4 42, .tmp 5]) Tryd.func66 rfl (by decide +kernel) rfl (by simp [Tryd.ntmps66]) ?_
    simp only [Tryd.ntmps66]
    repeat' first
      | apply AW.seq | apply AW.region | apply AW.ret | apply AW.block | apply AW.skip | apply AW.exit | apply AW.scope | apply AW.label | apply AWL.nil
      | ((first | (apply W.step cx_ok; decide) | apply W.store cx_ok | (apply W.gS; rfl; decide) | apply AW.cond); (simp (disch := omega) only [push_cast, simprocAttr, natNe, List.mem_cons, List.not_mem_nil, TyD.isAgg, Nat.add_assoc, List.map_nil, List.length_nil, Bool.and_self, Bool.and_true, Bool.true_and, Bool.false_and, Bool.and_false, Bool.not_true, Bool.not_false, Bool.false_eq_true] <;> rfl); all_goals try ((with_reducible intro hI); try first | (cases hI; done) | (simp only [INTS, not_true_eq_false] at hI; try first | (exfalso; omega) | (have hT : True := hI; clear hT hI))))
      | ((apply W.callv cx_ok; decide); (iterate 2 (simp (disch := omega) only [push_cast, simprocAttr, natNe, List.mem_cons, List.not_mem_nil, TyD.isAgg, Nat.add_assoc, List.map_nil, List.length_nil, Bool.and_self, Bool.and_true, Bool.true_and, Bool.false_and, Bool.and_false, Bool.not_true, Bool.not_false, Bool.false_eq_true] <;> rfl)); (with_reducible first | exact c1 | exact c2); try first | rfl | (simp (disch := omega) only [push_cast, simprocAttr, natNe, List.mem_cons, List.not_mem_nil, TyD.isAgg, Nat.add_assoc, List.map_nil, List.length_nil, Bool.and_self, Bool.and_true, Bool.true_and, Bool.false_and, Bool.and_false, Bool.not_true, Bool.not_false, Bool.false_eq_true] <;> rfl))
      | ((first | apply W.retM | apply W.endM'); (iterate 2 (try (simp (disch := omega) only [push_cast, simprocAttr, natNe, List.mem_cons, List.not_mem_nil, TyD.isAgg, Nat.add_assoc, List.map_nil, List.length_nil, Bool.and_self, Bool.and_true, Bool.true_and, Bool.false_and, Bool.and_false, Bool.not_true, Bool.not_false, Bool.false_eq_true] <;> rfl))))

    all_goals (show _ = _; rfl)
  | true =>
  rw [h2] at c2
  rw [if_pos rfl] at c2
  exact absurd ⟨h1, h2⟩ h
theorem Sharpen_good (h0 : SortKC0 Tryd.prog 130) (a b : Mark) (h : markV a = true ∧ markV b = true) : OKv cx 66 [.agg (eMark a), .agg (eMark b)] (.tup [.agg (eMark (sharpenF a b).1), ai (sharpenF a b).2]) := by
  have c1 := CheckMark_ok a
  have c2 := CheckMark_ok b
  obtain ⟨h1, h2⟩ := h
  obtain ⟨va, _, as1, ab', _⟩ := markV_iff.1 h1
  obtain ⟨vb, _, bs, bb', _⟩ := markV_iff.1 h2
  rw [h1] at c1
  rw [h2] at c2
  rw [if_pos rfl] at c1 c2
  have ca : checkL [a.arc] = 0 := by unfold checkL; rw [if_neg (by simp), if_pos (by simp [va])]
  have cb : checkL [b.arc] = 0 := by unfold checkL; rw [if_neg (by simp), if_pos (by simp [vb])]
  have c3 : OKv cx 22 [.lst [eArc a.arc], .lst [eArc b.arc]] (.tup [lArc (arcsF (meetF (spansS [a.arc]) (spansS [b.arc]))), ai 0]) := Meet_good h0 [a.arc] [b.arc] ca cb
  have e1 : (a.seen.toNat : Int) = a.seen := Int.toNat_of_nonneg as1.1
  have e2 : (a.blank.toNat : Int) = a.blank := Int.toNat_of_nonneg ab'.1
  have e3 : (b.seen.toNat : Int) = b.seen := Int.toNat_of_nonneg bs.1
  have e4 : (b.blank.toNat : Int) = b.blank := Int.toNat_of_nonneg bb'.1
  have a1 := orI (p := a.seen.toNat) (q := b.seen.toNat) (by omega) (by omega)
  have a2 := orI (p := a.blank.toNat) (q := b.blank.toNat) (by omega) (by omega)
  rw [e1, e3] at a1
  rw [e2, e4] at a2
  have l1 : (a.seen.toNat ||| b.seen.toNat) < 4096 := or_lt (by omega) (by omega)
  have l2 : (a.blank.toNat ||| b.blank.toNat) < 4096 := or_lt (by omega) (by omega)
  have a3 := andI (p := a.seen.toNat ||| b.seen.toNat) (q := a.blank.toNat ||| b.blank.toNat) (by omega) (by omega)
  unfold sharpenF
  generalize arcsF (meetF (spansS [a.arc]) (spansS [b.arc])) = AL at *
  generalize a.seen.toNat ||| b.seen.toNat = SN at *
  generalize a.blank.toNat ||| b.blank.toNat = BN at *
  obtain ⟨CN, hCN⟩ : ∃ z, SN &&& BN = z := ⟨_, rfl⟩
  rw [hCN] at a3 ⊢
  have hf1 : ∀ l x, flatA (.tup [.lst l, .v x]) = false := fun _ _ => rfl
  have hf2 : ∀ l, flatA (.lst l) = false := fun _ => rfl
  have hf3 : ∀ x, flatA (.v x) = true := fun _ => rfl
  have hf4 : ∀ x y, flatA (.agg [.v x, .v y]) = true := fun _ _ => rfl
  by_cases g1 : a.track = b.track
  rotate_left
  · have x1 := eq_false g1
    have y1 : (a.track == b.track) = false := by simpa using g1
    rw [if_pos (.inl g1)]
    dsimp only
    refine OKat.of_bodyM cx_ok (rs := [.cell 4 42, .tmp 5]) Tryd.func66 rfl (by decide +kernel) rfl (by simp [Tryd.ntmps66]) ?_
    simp only [Tryd.ntmps66]
    repeat' first
      | apply AW.seq | apply AW.region | apply AW.ret | apply AW.block | apply AW.skip | apply AW.exit | apply AW.scope | apply AW.label | apply AWL.nil
      | ((first | (apply W.step cx_ok; decide) | apply W.store cx_ok | (apply W.gS; rfl; decide) | apply AW.cond); (simp (disch := omega) only [push_cast, simprocAttr, natNe, List.mem_cons, List.not_mem_nil, TyD.isAgg, Nat.add_assoc, List.map_nil, List.length_nil, Bool.and_self, Bool.and_true, Bool.true_and, Bool.false_and, Bool.and_false, Bool.not_true, Bool.not_false, Bool.false_eq_true, rowAt_aftF, St.back, idsL, idsA, idsLL, List.cons_append, List.nil_append, List.append_nil, Option.map_some, hf1, hf2, hf3, hf4, a1, a2, a3, e1, e2, e3, e4, x1, y1] <;> rfl); all_goals try ((with_reducible intro hI); try first | (cases hI; done) | (simp only [INTS, not_true_eq_false] at hI; try first | (exfalso; omega) | (have hT : True := hI; clear hT hI))))
      | ((apply W.callv cx_ok; decide); (iterate 2 (simp (disch := omega) only [push_cast, simprocAttr, natNe, List.mem_cons, List.not_mem_nil, TyD.isAgg, Nat.add_assoc, List.map_nil, List.length_nil, Bool.and_self, Bool.and_true, Bool.true_and, Bool.false_and, Bool.and_false, Bool.not_true, Bool.not_false, Bool.false_eq_true, rowAt_aftF, St.back, idsL, idsA, idsLL, List.cons_append, List.nil_append, List.append_nil, Option.map_some, hf1, hf2, hf3, hf4, a1, a2, a3, e1, e2, e3, e4, x1, y1] <;> rfl)); (with_reducible first | exact c1 | exact c2 | exact c3); try first | rfl | (simp (disch := omega) only [push_cast, simprocAttr, natNe, List.mem_cons, List.not_mem_nil, TyD.isAgg, Nat.add_assoc, List.map_nil, List.length_nil, Bool.and_self, Bool.and_true, Bool.true_and, Bool.false_and, Bool.and_false, Bool.not_true, Bool.not_false, Bool.false_eq_true, rowAt_aftF, St.back, idsL, idsA, idsLL, List.cons_append, List.nil_append, List.append_nil, Option.map_some, hf1, hf2, hf3, hf4, a1, a2, a3, e1, e2, e3, e4, x1, y1] <;> rfl))
      | ((first | apply W.retM | apply W.endM'); (iterate 2 (try (simp (disch := omega) only [push_cast, simprocAttr, natNe, List.mem_cons, List.not_mem_nil, TyD.isAgg, Nat.add_assoc, List.map_nil, List.length_nil, Bool.and_self, Bool.and_true, Bool.true_and, Bool.false_and, Bool.and_false, Bool.not_true, Bool.not_false, Bool.false_eq_true, rowAt_aftF, St.back, idsL, idsA, idsLL, List.cons_append, List.nil_append, List.append_nil, Option.map_some, hf1, hf2, hf3, hf4, a1, a2, a3, e1, e2, e3, e4, x1, y1] <;> rfl))))

    all_goals (show _ = _; rfl)
  have x1 := eq_true g1
  have y1 : (a.track == b.track) = true := by simpa using g1
  by_cases g2 : CN = 0
  rotate_left
  · have x2 : ((CN : Int) = 0) = False := eq_false (by omega)
    have y2 : ((CN : Int) == 0) = false := by rw [beq_eq_false_iff_ne]; omega
    rw [if_pos (.inr g2)]
    dsimp only
    refine OKat.of_bodyM cx_ok (rs := [.cell 4 42, .tmp 5]) Tryd.func66 rfl (by decide +kernel) rfl (by simp [Tryd.ntmps66]) ?_
    simp only [Tryd.ntmps66]
    repeat' first
      | apply AW.seq | apply AW.region | apply AW.ret | apply AW.block | apply AW.skip | apply AW.exit | apply AW.scope | apply AW.label | apply AWL.nil
      | ((first | (apply W.step cx_ok; decide) | apply W.store cx_ok | (apply W.gS; rfl; decide) | apply AW.cond); (simp (disch := omega) only [push_cast, simprocAttr, natNe, List.mem_cons, List.not_mem_nil, TyD.isAgg, Nat.add_assoc, List.map_nil, List.length_nil, Bool.and_self, Bool.and_true, Bool.true_and, Bool.false_and, Bool.and_false, Bool.not_true, Bool.not_false, Bool.false_eq_true, rowAt_aftF, St.back, idsL, idsA, idsLL, List.cons_append, List.nil_append, List.append_nil, Option.map_some, hf1, hf2, hf3, hf4, a1, a2, a3, e1, e2, e3, e4, x1, y1, x2, y2] <;> rfl); all_goals try ((with_reducible intro hI); try first | (cases hI; done) | (simp only [INTS, not_true_eq_false] at hI; try first | (exfalso; omega) | (have hT : True := hI; clear hT hI))))
      | ((apply W.callv cx_ok; decide); (iterate 2 (simp (disch := omega) only [push_cast, simprocAttr, natNe, List.mem_cons, List.not_mem_nil, TyD.isAgg, Nat.add_assoc, List.map_nil, List.length_nil, Bool.and_self, Bool.and_true, Bool.true_and, Bool.false_and, Bool.and_false, Bool.not_true, Bool.not_false, Bool.false_eq_true, rowAt_aftF, St.back, idsL, idsA, idsLL, List.cons_append, List.nil_append, List.append_nil, Option.map_some, hf1, hf2, hf3, hf4, a1, a2, a3, e1, e2, e3, e4, x1, y1, x2, y2] <;> rfl)); (with_reducible first | exact c1 | exact c2 | exact c3); try first | rfl | (simp (disch := omega) only [push_cast, simprocAttr, natNe, List.mem_cons, List.not_mem_nil, TyD.isAgg, Nat.add_assoc, List.map_nil, List.length_nil, Bool.and_self, Bool.and_true, Bool.true_and, Bool.false_and, Bool.and_false, Bool.not_true, Bool.not_false, Bool.false_eq_true, rowAt_aftF, St.back, idsL, idsA, idsLL, List.cons_append, List.nil_append, List.append_nil, Option.map_some, hf1, hf2, hf3, hf4, a1, a2, a3, e1, e2, e3, e4, x1, y1, x2, y2] <;> rfl))
      | ((first | apply W.retM | apply W.endM'); (iterate 2 (try (simp (disch := omega) only [push_cast, simprocAttr, natNe, List.mem_cons, List.not_mem_nil, TyD.isAgg, Nat.add_assoc, List.map_nil, List.length_nil, Bool.and_self, Bool.and_true, Bool.true_and, Bool.false_and, Bool.and_false, Bool.not_true, Bool.not_false, Bool.false_eq_true, rowAt_aftF, St.back, idsL, idsA, idsLL, List.cons_append, List.nil_append, List.append_nil, Option.map_some, hf1, hf2, hf3, hf4, a1, a2, a3, e1, e2, e3, e4, x1, y1, x2, y2] <;> rfl))))

    all_goals (show _ = _; rfl)
  rw [if_neg (by rintro (h | h); exact h g1; exact h g2)]
  subst g2
  have x2 : (((0 : Nat) : Int) = 0) = True := eq_true rfl
  rcases AL with _ | ⟨x, _ | ⟨y, AL⟩⟩
  · dsimp only
    refine OKat.of_bodyM cx_ok (rs := [.cell 4 42, .tmp 5]) Tryd.func66 rfl (by decide +kernel) rfl (by simp [Tryd.ntmps66]) ?_
    simp only [Tryd.ntmps66]
    repeat' first
      | apply AW.seq | apply AW.region | apply AW.ret | apply AW.block | apply AW.skip | apply AW.exit | apply AW.scope | apply AW.label | apply AWL.nil
      | ((first | (apply W.step cx_ok; decide) | apply W.store cx_ok | (apply W.gS; rfl; decide) | apply AW.cond); (simp (disch := omega) only [push_cast, simprocAttr, natNe, List.mem_cons, List.not_mem_nil, TyD.isAgg, Nat.add_assoc, List.map_nil, List.length_nil, Bool.and_self, Bool.and_true, Bool.true_and, Bool.false_and, Bool.and_false, Bool.not_true, Bool.not_false, Bool.false_eq_true, rowAt_aftF, St.back, idsL, idsA, idsLL, List.cons_append, List.nil_append, List.append_nil, Option.map_some, hf1, hf2, hf3, hf4, a1, a2, a3, e1, e2, e3, e4, x1, y1, Int.natCast_zero] <;> rfl); all_goals try ((with_reducible intro hI); try first | (cases hI; done) | (simp only [INTS, not_true_eq_false] at hI; try first | (exfalso; omega) | (have hT : True := hI; clear hT hI))))
      | ((apply W.callv cx_ok; decide); (iterate 2 (simp (disch := omega) only [push_cast, simprocAttr, natNe, List.mem_cons, List.not_mem_nil, TyD.isAgg, Nat.add_assoc, List.map_nil, List.length_nil, Bool.and_self, Bool.and_true, Bool.true_and, Bool.false_and, Bool.and_false, Bool.not_true, Bool.not_false, Bool.false_eq_true, rowAt_aftF, St.back, idsL, idsA, idsLL, List.cons_append, List.nil_append, List.append_nil, Option.map_some, hf1, hf2, hf3, hf4, a1, a2, a3, e1, e2, e3, e4, x1, y1, Int.natCast_zero] <;> rfl)); (with_reducible first | exact c1 | exact c2 | exact c3); try first | rfl | (simp (disch := omega) only [push_cast, simprocAttr, natNe, List.mem_cons, List.not_mem_nil, TyD.isAgg, Nat.add_assoc, List.map_nil, List.length_nil, Bool.and_self, Bool.and_true, Bool.true_and, Bool.false_and, Bool.and_false, Bool.not_true, Bool.not_false, Bool.false_eq_true, rowAt_aftF, St.back, idsL, idsA, idsLL, List.cons_append, List.nil_append, List.append_nil, Option.map_some, hf1, hf2, hf3, hf4, a1, a2, a3, e1, e2, e3, e4, x1, y1, Int.natCast_zero] <;> rfl))
      | ((first | apply W.retM | apply W.endM'); (iterate 2 (try (simp (disch := omega) only [push_cast, simprocAttr, natNe, List.mem_cons, List.not_mem_nil, TyD.isAgg, Nat.add_assoc, List.map_nil, List.length_nil, Bool.and_self, Bool.and_true, Bool.true_and, Bool.false_and, Bool.and_false, Bool.not_true, Bool.not_false, Bool.false_eq_true, rowAt_aftF, St.back, idsL, idsA, idsLL, List.cons_append, List.nil_append, List.append_nil, Option.map_some, hf1, hf2, hf3, hf4, a1, a2, a3, e1, e2, e3, e4, x1, y1, Int.natCast_zero] <;> rfl))))

    all_goals (show _ = _; rfl)
  · dsimp only
    refine OKat.of_bodyM cx_ok (rs := [.cell 4 42, .tmp 5]) Tryd.func66 rfl (by decide +kernel) rfl (by simp [Tryd.ntmps66]) ?_
    simp only [Tryd.ntmps66]
    repeat' first
      | apply AW.seq | apply AW.region | apply AW.ret | apply AW.block | apply AW.skip | apply AW.exit | apply AW.scope | apply AW.label | apply AWL.nil
      | ((first | (apply W.step cx_ok; decide) | apply W.store cx_ok | (apply W.gS; rfl; decide) | apply AW.cond); (simp (disch := omega) only [push_cast, simprocAttr, natNe, List.mem_cons, List.not_mem_nil, TyD.isAgg, Nat.add_assoc, List.map_nil, List.length_nil, Bool.and_self, Bool.and_true, Bool.true_and, Bool.false_and, Bool.and_false, Bool.not_true, Bool.not_false, Bool.false_eq_true, rowAt_aftF, St.back, idsL, idsA, idsLL, List.cons_append, List.nil_append, List.append_nil, Option.map_some, hf1, hf2, hf3, hf4, a1, a2, a3, e1, e2, e3, e4, x1, y1, Int.natCast_zero, List.map_cons, List.length_cons, List.getD_cons_zero, List.getElem?_cons_zero] <;> rfl); all_goals try ((with_reducible intro hI); try first | (cases hI; done) | (simp only [INTS, not_true_eq_false] at hI; try first | (exfalso; omega) | (have hT : True := hI; clear hT hI))))
      | ((apply W.callv cx_ok; decide); (iterate 2 (simp (disch := omega) only [push_cast, simprocAttr, natNe, List.mem_cons, List.not_mem_nil, TyD.isAgg, Nat.add_assoc, List.map_nil, List.length_nil, Bool.and_self, Bool.and_true, Bool.true_and, Bool.false_and, Bool.and_false, Bool.not_true, Bool.not_false, Bool.false_eq_true, rowAt_aftF, St.back, idsL, idsA, idsLL, List.cons_append, List.nil_append, List.append_nil, Option.map_some, hf1, hf2, hf3, hf4, a1, a2, a3, e1, e2, e3, e4, x1, y1, Int.natCast_zero, List.map_cons, List.length_cons, List.getD_cons_zero, List.getElem?_cons_zero] <;> rfl)); (with_reducible first | exact c1 | exact c2 | exact c3); try first | rfl | (simp (disch := omega) only [push_cast, simprocAttr, natNe, List.mem_cons, List.not_mem_nil, TyD.isAgg, Nat.add_assoc, List.map_nil, List.length_nil, Bool.and_self, Bool.and_true, Bool.true_and, Bool.false_and, Bool.and_false, Bool.not_true, Bool.not_false, Bool.false_eq_true, rowAt_aftF, St.back, idsL, idsA, idsLL, List.cons_append, List.nil_append, List.append_nil, Option.map_some, hf1, hf2, hf3, hf4, a1, a2, a3, e1, e2, e3, e4, x1, y1, Int.natCast_zero, List.map_cons, List.length_cons, List.getD_cons_zero, List.getElem?_cons_zero] <;> rfl))
      | ((first | apply W.retM | apply W.endM'); (iterate 2 (try (simp (disch := omega) only [push_cast, simprocAttr, natNe, List.mem_cons, List.not_mem_nil, TyD.isAgg, Nat.add_assoc, List.map_nil, List.length_nil, Bool.and_self, Bool.and_true, Bool.true_and, Bool.false_and, Bool.and_false, Bool.not_true, Bool.not_false, Bool.false_eq_true, rowAt_aftF, St.back, idsL, idsA, idsLL, List.cons_append, List.nil_append, List.append_nil, Option.map_some, hf1, hf2, hf3, hf4, a1, a2, a3, e1, e2, e3, e4, x1, y1, Int.natCast_zero, List.map_cons, List.length_cons, List.getD_cons_zero, List.getElem?_cons_zero] <;> rfl))))

    all_goals (show _ = _; rfl)
  · dsimp only
    have z1 : (((x :: y :: AL).length : Int) = 0) = False := eq_false (by simp only [List.length_cons]; omega)
    have z2 : (1 < ((x :: y :: AL).length : Int)) = True := eq_true (by simp only [List.length_cons]; omega)
    have z3 : (((x :: y :: AL).length : Int) == 0) = false := by rw [beq_eq_false_iff_ne]; simp only [List.length_cons]; omega
    generalize x :: y :: AL = AA at *
    refine OKat.of_bodyM cx_ok (rs := [.cell 4 42, .tmp 5]) Tryd.func66 rfl (by decide +kernel) rfl (by simp [Tryd.ntmps66]) ?_
    simp only [Tryd.ntmps66]
    repeat' first
      | apply AW.seq | apply AW.region | apply AW.ret | apply AW.block | apply AW.skip | apply AW.exit | apply AW.scope | apply AW.label | apply AWL.nil
      | ((first | (apply W.step cx_ok; decide) | apply W.store cx_ok | (apply W.gS; rfl; decide) | apply AW.cond); (simp (disch := omega) only [push_cast, simprocAttr, natNe, List.mem_cons, List.not_mem_nil, TyD.isAgg, Nat.add_assoc, List.map_nil, List.length_nil, Bool.and_self, Bool.and_true, Bool.true_and, Bool.false_and, Bool.and_false, Bool.not_true, Bool.not_false, Bool.false_eq_true, rowAt_aftF, St.back, idsL, idsA, idsLL, List.cons_append, List.nil_append, List.append_nil, Option.map_some, hf1, hf2, hf3, hf4, a1, a2, a3, e1, e2, e3, e4, x1, y1, Int.natCast_zero, z1, z2, z3] <;> rfl); all_goals try ((with_reducible intro hI); try first | (cases hI; done) | (simp only [INTS, not_true_eq_false] at hI; try first | (exfalso; omega) | (have hT : True := hI; clear hT hI))))
      | ((apply W.callv cx_ok; decide); (iterate 2 (simp (disch := omega) only [push_cast, simprocAttr, natNe, List.mem_cons, List.not_mem_nil, TyD.isAgg, Nat.add_assoc, List.map_nil, List.length_nil, Bool.and_self, Bool.and_true, Bool.true_and, Bool.false_and, Bool.and_false, Bool.not_true, Bool.not_false, Bool.false_eq_true, rowAt_aftF, St.back, idsL, idsA, idsLL, List.cons_append, List.nil_append, List.append_nil, Option.map_some, hf1, hf2, hf3, hf4, a1, a2, a3, e1, e2, e3, e4, x1, y1, Int.natCast_zero, z1, z2, z3] <;> rfl)); (with_reducible first | exact c1 | exact c2 | exact c3); try first | rfl | (simp (disch := omega) only [push_cast, simprocAttr, natNe, List.mem_cons, List.not_mem_nil, TyD.isAgg, Nat.add_assoc, List.map_nil, List.length_nil, Bool.and_self, Bool.and_true, Bool.true_and, Bool.false_and, Bool.and_false, Bool.not_true, Bool.not_false, Bool.false_eq_true, rowAt_aftF, St.back, idsL, idsA, idsLL, List.cons_append, List.nil_append, List.append_nil, Option.map_some, hf1, hf2, hf3, hf4, a1, a2, a3, e1, e2, e3, e4, x1, y1, Int.natCast_zero, z1, z2, z3] <;> rfl))
      | ((first | apply W.retM | apply W.endM'); (iterate 2 (try (simp (disch := omega) only [push_cast, simprocAttr, natNe, List.mem_cons, List.not_mem_nil, TyD.isAgg, Nat.add_assoc, List.map_nil, List.length_nil, Bool.and_self, Bool.and_true, Bool.true_and, Bool.false_and, Bool.and_false, Bool.not_true, Bool.not_false, Bool.false_eq_true, rowAt_aftF, St.back, idsL, idsA, idsLL, List.cons_append, List.nil_append, List.append_nil, Option.map_some, hf1, hf2, hf3, hf4, a1, a2, a3, e1, e2, e3, e4, x1, y1, Int.natCast_zero, z1, z2, z3] <;> rfl))))

    all_goals (show _ = _; rfl)
end Go.Proofs.Ds
