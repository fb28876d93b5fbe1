/-
  Contracts of functions, proved by going through their code. No conditions.
-/
import Derived.Test.YtkdiplkmcilkmaaGreatDoorTaq
import Derived.Test.YtkdiplkmcilkmaaGreatDoorTas
set_option linter.unusedVariables false
set_option linter.unusedSimpArgs false
set_option maxHeartbeats 8000000
set_option maxRecDepth 10000
namespace Go.Proofs.Dz
open Go Go.Pg Go.Proofs Go.Proofs.Ds
theorem canon_len : ∀ (l : List Span) (a : Int), canon l → (∀ s ∈ l, a ≤ s.lo ∧ s.hi ≤ 43199) → a ≤ 43200 → (l.length : Int) ≤ 43200 - a
  | [], a, _, _, h => by simp only [List.length_nil]; omega
  | s :: l, a, hc, hi, h => by
    obtain ⟨h1, h2, h3⟩ := canon_cons.1 hc
    have hs := hi s (by simp)
    have := canon_len l (s.hi + 1) h3 (fun t ht => ⟨by have := h2 t ht; omega, (hi t (by simp [ht])).2⟩) (by omega)
    simp only [List.length_cons]
    omega
theorem inC_len {l : List Span} (hc : canon l) (hi : inC l) : l.length ≤ 43200 := by
  have := canon_len l 0 hc hi (by omega)
  omega
theorem checkL_zero {l : List Arc} (h : checkL l = 0) : l.length ≤ 200 ∧ ∀ x ∈ l, validA x = true := by
  unfold checkL at h
  split at h
  · omega
  · split at h
    · rename_i h1 h2
      exact ⟨by omega, List.all_eq_true.1 h2⟩
    · omega
theorem piecesL_len : ∀ l : List Arc, (piecesL l).length ≤ 2 * l.length
  | [] => by simp [piecesL]
  | x :: l => by
    have := piecesL_len l
    rw [piecesL_cons, List.length_append, List.length_cons]
    have h2 : (piecesF x).length ≤ 2 := by unfold piecesF; split <;> simp
    omega
theorem pspans_ok (h0 : SortKC0 Tryz.prog 105) (A : List Arc) (hv : ∀ x ∈ A, validA x = true) (hA : A.length ≤ 400000) : OKv cx 66 [lArc A] (lSpan (spansS A)) := by
  have := piecesL_len A
  exact spans_ok A hv (by omega) (SortedFunc_ok sort130 h0 A hv (by omega) (by omega))
theorem both_good (h0 : SortKC0 Tryz.prog 105) (a b : List Arc) (f : FuncId) (R : List Span) (ha : checkL a = 0) (hb : checkL b = 0) (hop : OKv cx f [lSpan (spansS a), lSpan (spansS b)] (lSpan R)) (hc : canon R) (hi : inC R) :
    OKv cx 60 [lArc a, lArc b, .clo f []] (.tup [lArc (arcsF R), ai 0]) := by
  obtain ⟨la, va⟩ := checkL_zero ha
  obtain ⟨lb, vb⟩ := checkL_zero hb
  have c1 := acceptable_ok a (by omega)
  have c2 := acceptable_ok b (by omega)
  have c3 := pspans_ok h0 a va (by omega)
  have c4 := pspans_ok h0 b vb (by omega)
  have hl := inC_len hc hi
  have c5 := arcs_ok R hi hc.2 (by omega)
  rw [ha] at c1
  rw [hb] at c2
  refine OKat.of_body (rs := [6, 7]) Tryz.func60 rfl (by decide +kernel) rfl (by simp [Tryz.ntmps60]) ?_
  simp only [Tryz.ntmps60]
  repeat' first
    | apply AW.seq | apply AW.region | apply AW.ret | apply AW.block | apply AW.skip | apply AW.exit | apply AW.scope | apply AW.label | apply AWL.nil
    | ((first | (apply W.step cx_ok; decide) | apply AW.cond); (simp (disch := omega) only [push_cast, simprocAttr, natNe, List.mem_cons, List.not_mem_nil, TyD.isAgg, Nat.add_assoc, Bool.false_eq_true, List.map_nil, List.length_nil] <;> rfl); all_goals try ((with_reducible intro hI); try first | (cases hI; done) | (simp only [INTS, not_true_eq_false] at hI; try first | (exfalso; omega) | (have hT : True := hI; clear hT hI))))
    | ((first | apply W.ret2 | apply W.end2); (iterate 2 (try (simp (disch := omega) only [push_cast, simprocAttr, natNe, List.mem_cons, List.not_mem_nil, TyD.isAgg, Nat.add_assoc, Bool.false_eq_true, List.map_nil, List.length_nil] <;> rfl))))

  refine AW.loop (fun n s => ∃ (k : Nat), n = 2 - k ∧ (k ≤ 2) ∧ s.tm 0 = lArc a ∧ s.tm 1 = lArc b ∧ s.tm 2 = .clo f [] ∧ s.tm 13 = .agg [lArc a, lArc b] ∧ s.tm 14 = ai k) (2) ⟨0, rfl, (by omega), ?_, ?_, ?_, ?_, ?_⟩ ?_
  iterate 5 (first | (simp (disch := omega) only [push_cast, simprocAttr, natNe, List.mem_cons, List.not_mem_nil, TyD.isAgg, Nat.add_assoc, Bool.false_eq_true, List.map_nil, List.length_nil] <;> first | rfl | omega) | omega)
  rintro n s ⟨k, hn, hp0, hS⟩
  rcases (show k = 0 ∨ k = 1 ∨ k = 2 by omega) with rfl | rfl | rfl
  · have e0 : ((0 : Nat) : Int) = 0 := rfl
    repeat' first
      | apply AW.seq | apply AW.region | apply AW.ret | apply AW.block | apply AW.skip | apply AW.exit | apply AW.scope | apply AW.label | apply AWL.nil
      | ((first | (apply W.step cx_ok; decide) | apply AW.cond); (simp (disch := omega) only [push_cast, simprocAttr, hS, natNe, List.mem_cons, List.not_mem_nil, TyD.isAgg, Nat.add_assoc, Bool.false_eq_true, List.map_nil, List.length_nil, e0, Int.natCast_zero] <;> rfl); all_goals try ((with_reducible intro hI); try first | (cases hI; done) | (simp only [INTS, not_true_eq_false] at hI; try first | (exfalso; omega) | (have hT : True := hI; clear hT hI))))
      | ((apply W.callv cx_ok; decide); (iterate 2 (simp (disch := omega) only [push_cast, simprocAttr, hS, natNe, List.mem_cons, List.not_mem_nil, TyD.isAgg, Nat.add_assoc, Bool.false_eq_true, List.map_nil, List.length_nil, e0, Int.natCast_zero] <;> rfl)); (with_reducible first | exact c1 | exact c2); try first | rfl | (simp (disch := omega) only [push_cast, simprocAttr, hS, natNe, List.mem_cons, List.not_mem_nil, TyD.isAgg, Nat.add_assoc, Bool.false_eq_true, List.map_nil, List.length_nil, e0, Int.natCast_zero] <;> rfl))
      | ((first | apply W.ret2 | apply W.end2); (iterate 2 (try (simp (disch := omega) only [push_cast, simprocAttr, hS, natNe, List.mem_cons, List.not_mem_nil, TyD.isAgg, Nat.add_assoc, Bool.false_eq_true, List.map_nil, List.length_nil, e0, Int.natCast_zero] <;> rfl))))

    all_goals (refine ⟨1, ?_, 1, rfl, (by omega), ?_, ?_, ?_, ?_, ?_⟩; (omega); all_goals first | (simp (disch := omega) only [push_cast, simprocAttr, hS, natNe, List.mem_cons, List.not_mem_nil, TyD.isAgg, Nat.add_assoc, Bool.false_eq_true, List.map_nil, List.length_nil, e0] <;> first | rfl | omega) | omega)
  · have e0 : ((1 : Nat) : Int) = 1 := rfl
    repeat' first
      | apply AW.seq | apply AW.region | apply AW.ret | apply AW.block | apply AW.skip | apply AW.exit | apply AW.scope | apply AW.label | apply AWL.nil
      | ((first | (apply W.step cx_ok; decide) | apply AW.cond); (simp (disch := omega) only [push_cast, simprocAttr, hS, natNe, List.mem_cons, List.not_mem_nil, TyD.isAgg, Nat.add_assoc, Bool.false_eq_true, List.map_nil, List.length_nil, e0, Int.natCast_one] <;> rfl); all_goals try ((with_reducible intro hI); try first | (cases hI; done) | (simp only [INTS, not_true_eq_false] at hI; try first | (exfalso; omega) | (have hT : True := hI; clear hT hI))))
      | ((apply W.callv cx_ok; decide); (iterate 2 (simp (disch := omega) only [push_cast, simprocAttr, hS, natNe, List.mem_cons, List.not_mem_nil, TyD.isAgg, Nat.add_assoc, Bool.false_eq_true, List.map_nil, List.length_nil, e0, Int.natCast_one] <;> rfl)); (with_reducible first | exact c1 | exact c2); try first | rfl | (simp (disch := omega) only [push_cast, simprocAttr, hS, natNe, List.mem_cons, List.not_mem_nil, TyD.isAgg, Nat.add_assoc, Bool.false_eq_true, List.map_nil, List.length_nil, e0, Int.natCast_one] <;> rfl))
      | ((first | apply W.ret2 | apply W.end2); (iterate 2 (try (simp (disch := omega) only [push_cast, simprocAttr, hS, natNe, List.mem_cons, List.not_mem_nil, TyD.isAgg, Nat.add_assoc, Bool.false_eq_true, List.map_nil, List.length_nil, e0, Int.natCast_one] <;> rfl))))

    all_goals (refine ⟨0, ?_, 2, rfl, (by omega), ?_, ?_, ?_, ?_, ?_⟩; (omega); all_goals first | (simp (disch := omega) only [push_cast, simprocAttr, hS, natNe, List.mem_cons, List.not_mem_nil, TyD.isAgg, Nat.add_assoc, Bool.false_eq_true, List.map_nil, List.length_nil, e0] <;> first | rfl | omega) | omega)
  · have e0 : ((2 : Nat) : Int) = 2 := rfl
    repeat' first
      | apply AW.seq | apply AW.region | apply AW.ret | apply AW.block | apply AW.skip | apply AW.exit | apply AW.scope | apply AW.label | apply AWL.nil
      | ((first | (apply W.step cx_ok; decide) | apply AW.cond); (simp (disch := omega) only [push_cast, simprocAttr, hS, natNe, List.mem_cons, List.not_mem_nil, TyD.isAgg, Nat.add_assoc, Bool.false_eq_true, List.map_nil, List.length_nil, e0] <;> rfl); all_goals try ((with_reducible intro hI); try first | (cases hI; done) | (simp only [INTS, not_true_eq_false] at hI; try first | (exfalso; omega) | (have hT : True := hI; clear hT hI))))
      | ((apply W.callv cx_ok; decide); (iterate 2 (simp (disch := omega) only [push_cast, simprocAttr, hS, natNe, List.mem_cons, List.not_mem_nil, TyD.isAgg, Nat.add_assoc, Bool.false_eq_true, List.map_nil, List.length_nil, e0] <;> rfl)); (with_reducible first | exact c3 | exact c4 | exact c5 | exact hop); try first | rfl | (simp (disch := omega) only [push_cast, simprocAttr, hS, natNe, List.mem_cons, List.not_mem_nil, TyD.isAgg, Nat.add_assoc, Bool.false_eq_true, List.map_nil, List.length_nil, e0] <;> rfl))
      | ((first | apply W.ret2 | apply W.end2); (iterate 2 (try (simp (disch := omega) only [push_cast, simprocAttr, hS, natNe, List.mem_cons, List.not_mem_nil, TyD.isAgg, Nat.add_assoc, Bool.false_eq_true, List.map_nil, List.length_nil, e0] <;> rfl))))

    all_goals (show _ = _; rfl)
theorem union1_ok (x y : List Span) (hx : canon x) (ix : inC x) (hy : canon y) (iy : inC y) : OKv cx 83 [lSpan x, lSpan y] (lSpan (restS (meetF (restS x) (restS y)))) := by
  obtain ⟨a1, a2, _⟩ := restS_spec hx ix
  obtain ⟨b1, b2, _⟩ := restS_spec hy iy
  obtain ⟨m1, m2⟩ := meet_spec a1 b1
  have mi : inC (meetF (restS x) (restS y)) := inC_of_mem m1 fun z hz => mem_inC a2 ((m2 z).1 hz).1
  have l1 := inC_len hx ix
  have l2 := inC_len hy iy
  have l3 := inC_len a1 a2
  have l4 := inC_len b1 b2
  have l5 := inC_len m1 mi
  have c1 := rest_ok x ix hx.2 (by omega)
  have c2 := rest_ok y iy hy.2 (by omega)
  have c3 := meet_ok (restS x) (restS y) a2 b2 a1.2 b1.2 (by omega) (by omega)
  have c4 := rest_ok _ mi m1.2 (by omega)
  refine OKat.of_body (rs := [4]) Tryz.func83 rfl (by decide +kernel) rfl (by simp [Tryz.ntmps83]) ?_
  simp only [Tryz.ntmps83]
  repeat' first
    | apply AW.seq | apply AW.region | apply AW.ret | apply AW.block | apply AW.skip | apply AW.exit | apply AW.scope | apply AW.label | apply AWL.nil
    | ((first | (apply W.step cx_ok; decide) | apply AW.cond); (simp (disch := omega) only [push_cast, simprocAttr, natNe, List.mem_cons, List.not_mem_nil, TyD.isAgg, Nat.add_assoc, Bool.false_eq_true, List.map_nil, List.length_nil] <;> rfl); all_goals try ((with_reducible intro hI); try first | (cases hI; done) | (simp only [INTS, not_true_eq_false] at hI; try first | (exfalso; omega) | (have hT : True := hI; clear hT hI))))
    | ((apply W.callv cx_ok; decide); (iterate 2 (simp (disch := omega) only [push_cast, simprocAttr, natNe, List.mem_cons, List.not_mem_nil, TyD.isAgg, Nat.add_assoc, Bool.false_eq_true, List.map_nil, List.length_nil] <;> rfl)); (with_reducible first | exact c1 | exact c2 | exact c3 | exact c4); try first | rfl | (simp (disch := omega) only [push_cast, simprocAttr, natNe, List.mem_cons, List.not_mem_nil, TyD.isAgg, Nat.add_assoc, Bool.false_eq_true, List.map_nil, List.length_nil] <;> rfl))
    | ((first | apply W.ret1 | apply W.end1); (iterate 2 (try (simp (disch := omega) only [push_cast, simprocAttr, natNe, List.mem_cons, List.not_mem_nil, TyD.isAgg, Nat.add_assoc, Bool.false_eq_true, List.map_nil, List.length_nil] <;> rfl))))

  all_goals (show _ = _; rfl)
theorem minus1_ok (x y : List Span) (hx : canon x) (ix : inC x) (hy : canon y) (iy : inC y) : OKv cx 61 [lSpan x, lSpan y] (lSpan (meetF x (restS y))) := by
  obtain ⟨b1, b2, _⟩ := restS_spec hy iy
  have l1 := inC_len hx ix
  have l2 := inC_len hy iy
  have l4 := inC_len b1 b2
  have c2 := rest_ok y iy hy.2 (by omega)
  have c3 := meet_ok x (restS y) ix b2 hx.2 b1.2 (by omega) (by omega)
  refine OKat.of_body (rs := [4]) Tryz.func61 rfl (by decide +kernel) rfl (by simp [Tryz.ntmps61]) ?_
  simp only [Tryz.ntmps61]
  repeat' first
    | apply AW.seq | apply AW.region | apply AW.ret | apply AW.block | apply AW.skip | apply AW.exit | apply AW.scope | apply AW.label | apply AWL.nil
    | ((first | (apply W.step cx_ok; decide) | apply AW.cond); (simp (disch := omega) only [push_cast, simprocAttr, natNe, List.mem_cons, List.not_mem_nil, TyD.isAgg, Nat.add_assoc, Bool.false_eq_true, List.map_nil, List.length_nil] <;> rfl); all_goals try ((with_reducible intro hI); try first | (cases hI; done) | (simp only [INTS, not_true_eq_false] at hI; try first | (exfalso; omega) | (have hT : True := hI; clear hT hI))))
    | ((apply W.callv cx_ok; decide); (iterate 2 (simp (disch := omega) only [push_cast, simprocAttr, natNe, List.mem_cons, List.not_mem_nil, TyD.isAgg, Nat.add_assoc, Bool.false_eq_true, List.map_nil, List.length_nil] <;> rfl)); (with_reducible first | exact c2 | exact c3); try first | rfl | (simp (disch := omega) only [push_cast, simprocAttr, natNe, List.mem_cons, List.not_mem_nil, TyD.isAgg, Nat.add_assoc, Bool.false_eq_true, List.map_nil, List.length_nil] <;> rfl))
    | ((first | apply W.ret1 | apply W.end1); (iterate 2 (try (simp (disch := omega) only [push_cast, simprocAttr, natNe, List.mem_cons, List.not_mem_nil, TyD.isAgg, Nat.add_assoc, Bool.false_eq_true, List.map_nil, List.length_nil] <;> rfl))))

  all_goals (show _ = _; rfl)
theorem Union_good (h0 : SortKC0 Tryz.prog 105) (a b : List Arc) (ha : checkL a = 0) (hb : checkL b = 0) : OKv cx 59 [lArc a, lArc b] (.tup [lArc (arcsF (spansS (a ++ b))), ai 0]) := by
  obtain ⟨la, va⟩ := checkL_zero ha
  obtain ⟨lb, vb⟩ := checkL_zero hb
  obtain ⟨a1, a2, _⟩ := spans_spec va
  obtain ⟨b1, b2, _⟩ := spans_spec vb
  have l1 := inC_len a1 a2
  have l2 := inC_len b1 b2
  obtain ⟨u1, u2, _⟩ := spans_spec (l := a ++ b) fun x hx => (List.mem_append.1 hx).elim (va x) (vb x)
  have hu := union_eq va vb
  have hop := union1_ok _ _ a1 a2 b1 b2
  rw [hu] at hop
  have c1 := both_good h0 a b 83 _ ha hb hop u1 u2
  refine OKat.of_body (rs := [4, 5]) Tryz.func59 rfl (by decide +kernel) rfl (by simp [Tryz.ntmps59]) ?_
  simp only [Tryz.ntmps59]
  repeat' first
    | apply AW.seq | apply AW.region | apply AW.ret | apply AW.block | apply AW.skip | apply AW.exit | apply AW.scope | apply AW.label | apply AWL.nil
    | ((first | (apply W.step cx_ok; decide) | apply AW.cond); (simp (disch := omega) only [push_cast, simprocAttr, natNe, List.mem_cons, List.not_mem_nil, TyD.isAgg, Nat.add_assoc, Bool.false_eq_true, List.map_nil, List.length_nil] <;> rfl); all_goals try ((with_reducible intro hI); try first | (cases hI; done) | (simp only [INTS, not_true_eq_false] at hI; try first | (exfalso; omega) | (have hT : True := hI; clear hT hI))))
    | ((apply W.callv cx_ok; decide); (iterate 2 (simp (disch := omega) only [push_cast, simprocAttr, natNe, List.mem_cons, List.not_mem_nil, TyD.isAgg, Nat.add_assoc, Bool.false_eq_true, List.map_nil, List.length_nil] <;> rfl)); (with_reducible first | exact c1); try first | rfl | (simp (disch := omega) only [push_cast, simprocAttr, natNe, List.mem_cons, List.not_mem_nil, TyD.isAgg, Nat.add_assoc, Bool.false_eq_true, List.map_nil, List.length_nil] <;> rfl))
    | ((first | apply W.ret2 | apply W.end2); (iterate 2 (try (simp (disch := omega) only [push_cast, simprocAttr, natNe, List.mem_cons, List.not_mem_nil, TyD.isAgg, Nat.add_assoc, Bool.false_eq_true, List.map_nil, List.length_nil] <;> rfl))))

  all_goals (show _ = _; rfl)
theorem Minus_good (h0 : SortKC0 Tryz.prog 105) (a b : List Arc) (ha : checkL a = 0) (hb : checkL b = 0) : OKv cx 28 [lArc a, lArc b] (.tup [lArc (arcsF (meetF (spansS a) (restS (spansS b)))), ai 0]) := by
  obtain ⟨la, va⟩ := checkL_zero ha
  obtain ⟨lb, vb⟩ := checkL_zero hb
  obtain ⟨a1, a2, _⟩ := spans_spec va
  obtain ⟨b1, b2, _⟩ := spans_spec vb
  have l1 := inC_len a1 a2
  have l2 := inC_len b1 b2
  obtain ⟨r1, r2, _⟩ := restS_spec b1 b2
  obtain ⟨u1, um⟩ := meet_spec a1 r1
  have u2 : inC (meetF (spansS a) (restS (spansS b))) := inC_of_mem u1 fun z hz => mem_inC a2 ((um z).1 hz).1
  have c1 := both_good h0 a b 61 _ ha hb (minus1_ok _ _ a1 a2 b1 b2) u1 u2
  refine OKat.of_body (rs := [4, 5]) Tryz.func28 rfl (by decide +kernel) rfl (by simp [Tryz.ntmps28]) ?_
  simp only [Tryz.ntmps28]
  repeat' first
    | apply AW.seq | apply AW.region | apply AW.ret | apply AW.block | apply AW.skip | apply AW.exit | apply AW.scope | apply AW.label | apply AWL.nil
    | ((first | (apply W.step cx_ok; decide) | apply AW.cond); (simp (disch := omega) only [push_cast, simprocAttr, natNe, List.mem_cons, List.not_mem_nil, TyD.isAgg, Nat.add_assoc, Bool.false_eq_true, List.map_nil, List.length_nil] <;> rfl); all_goals try ((with_reducible intro hI); try first | (cases hI; done) | (simp only [INTS, not_true_eq_false] at hI; try first | (exfalso; omega) | (have hT : True := hI; clear hT hI))))
    | ((apply W.callv cx_ok; decide); (iterate 2 (simp (disch := omega) only [push_cast, simprocAttr, natNe, List.mem_cons, List.not_mem_nil, TyD.isAgg, Nat.add_assoc, Bool.false_eq_true, List.map_nil, List.length_nil] <;> rfl)); (with_reducible first | exact c1); try first | rfl | (simp (disch := omega) only [push_cast, simprocAttr, natNe, List.mem_cons, List.not_mem_nil, TyD.isAgg, Nat.add_assoc, Bool.false_eq_true, List.map_nil, List.length_nil] <;> rfl))
    | ((first | apply W.ret2 | apply W.end2); (iterate 2 (try (simp (disch := omega) only [push_cast, simprocAttr, natNe, List.mem_cons, List.not_mem_nil, TyD.isAgg, Nat.add_assoc, Bool.false_eq_true, List.map_nil, List.length_nil] <;> rfl))))

  all_goals (show _ = _; rfl)
end Go.Proofs.Dz
