/-
  Contracts of functions, proved by going through their code. No conditions.
-/
import Derived.Test.YtkdiplkmcilkmaaDoorDau
import Derived.Test.YtkdiplkmcilkmaaDoorDaw
import Derived.Test.YtkdiplkmcilkmaaDoorDtC0
set_option linter.unusedVariables false
set_option linter.unusedSimpArgs false
set_option maxHeartbeats 8000000
set_option maxRecDepth 10000
namespace Go.Proofs.Ds
open Go Go.Pg Go.Proofs
theorem inW {l : List Span} (h1 : canon l) (h2 : inC l) : ∀ t ∈ l, 0 ≤ t.lo ∧ t.lo ≤ t.hi ∧ t.hi ≤ 43199 := fun t ht => ⟨(h2 t ht).1, h1.2 t ht, (h2 t ht).2⟩
theorem spans_len {l : List Arc} (hv : ∀ x ∈ l, validA x = true) : (spansS l).length ≤ 2 * l.length := by
  have h1 : ∀ (p m : List Span), (putAll m p).length ≤ m.length + p.length := by
    intro p
    induction p with
    | nil => intro m; exact Nat.le_refl _
    | cons s p ih =>
      intro m
      have e : putAll m (s :: p) = putAll (putD m s) p := rfl
      have := ih (putD m s)
      have := putD_len m s
      rw [e, List.length_cons]
      omega
  have h2 : (piecesL l).length ≤ 2 * l.length := by
    clear hv
    induction l with
    | nil => exact Nat.le_refl _
    | cons x l ih =>
      have e : piecesL (x :: l) = piecesF x ++ piecesL l := rfl
      rw [e, List.length_append, List.length_cons]
      have : (piecesF x).length ≤ 2 := by unfold piecesF; split <;> simp
      omega
  have := h1 (piecesL l) []
  unfold spansS
  simp only [List.length_nil] at this
  omega
theorem RMeet_ok (a b : List Arc) (ha : checkL a = 0) (hb : checkL b = 0) : OKv cx 29 [lArc a, lArc b] (lArc (arcsF (meetF (spansS a) (spansS b)))) := by
  obtain ⟨la, va⟩ := checkL_zero ha
  obtain ⟨a1, a2, _⟩ := spans_spec va
  have l1 := inC_len a1 a2
  have c1 := Rspans_ok a va (by omega)
  obtain ⟨lb, vb⟩ := checkL_zero hb
  obtain ⟨b1, b2, _⟩ := spans_spec vb
  have l2 := inC_len b1 b2
  have c2 := Rspans_ok b vb (by omega)
  have e1 := common_eq a1 b1
  have m3 := Rcommon_ok _ _ (inW a1 a2) (inW b1 b2) (by have := spans_len va; omega) (by have := spans_len vb; omega)
  rw [e1] at m3
  obtain ⟨u1, um⟩ := meet_spec a1 b1
  have u2 : inC (meetF (spansS a) (spansS b)) := inC_of_mem u1 fun z hz => mem_inC a2 ((um z).1 hz).1
  have l3 := inC_len u1 u2
  have c4 := Rarcs_ok _ u2 u1.2 (by omega)
  refine OKat.of_body (rs := [4]) Tryd.func29 rfl (by decide +kernel) rfl (by simp [Tryd.ntmps29]) ?_
  simp only [Tryd.ntmps29]
  repeat' first
    | apply AW.seq | apply AW.region | apply AW.ret | apply AW.block | apply AW.skip | apply AW.exit | apply AW.scope | apply AW.label | apply AWL.nil
    | ((first | (apply W.step cx_ok; decide) | apply AW.cond); (simp (disch := omega) only [push_cast, simprocAttr, natNe, List.mem_cons, List.not_mem_nil, TyD.isAgg, Nat.add_assoc, List.map_nil, List.length_nil, Bool.and_self, Bool.and_true, Bool.true_and, Bool.false_and, Bool.and_false, Bool.not_true, Bool.not_false, Bool.false_eq_true] <;> rfl); all_goals try ((with_reducible intro hI); try first | (cases hI; done) | (simp only [INTS, not_true_eq_false] at hI; try first | (exfalso; omega) | (have hT : True := hI; clear hT hI))))
    | ((apply W.callv cx_ok; decide); (iterate 2 (simp (disch := omega) only [push_cast, simprocAttr, natNe, List.mem_cons, List.not_mem_nil, TyD.isAgg, Nat.add_assoc, List.map_nil, List.length_nil, Bool.and_self, Bool.and_true, Bool.true_and, Bool.false_and, Bool.and_false, Bool.not_true, Bool.not_false, Bool.false_eq_true] <;> rfl)); (with_reducible first | exact c1 | exact c2 | exact m3 | exact c4); try first | rfl | (simp (disch := omega) only [push_cast, simprocAttr, natNe, List.mem_cons, List.not_mem_nil, TyD.isAgg, Nat.add_assoc, List.map_nil, List.length_nil, Bool.and_self, Bool.and_true, Bool.true_and, Bool.false_and, Bool.and_false, Bool.not_true, Bool.not_false, Bool.false_eq_true] <;> rfl))
    | ((first | apply W.ret1 | apply W.end1); (iterate 2 (try (simp (disch := omega) only [push_cast, simprocAttr, natNe, List.mem_cons, List.not_mem_nil, TyD.isAgg, Nat.add_assoc, List.map_nil, List.length_nil, Bool.and_self, Bool.and_true, Bool.true_and, Bool.false_and, Bool.and_false, Bool.not_true, Bool.not_false, Bool.false_eq_true] <;> rfl))))

  all_goals (show _ = _; rfl)
end Go.Proofs.Ds
