/-
  Contracts of functions, proved by going through their code. No conditions.
-/
import Derived.Test.YtkdiplkmcilkmaaDoorDtH
set_option linter.unusedVariables false
set_option linter.unusedSimpArgs false
set_option maxHeartbeats 8000000
set_option maxRecDepth 10000
namespace Go.Proofs.Ds
open Go Go.Pg Go.Proofs
def wB (a b : Key) (i : Ink) : Bool := confV a b i && witB a b i
def wM (a b : Key) (i : Ink) : Mark := if wB a b i = true then witM a b i else mark0
theorem Witness_ok (a b : Key) (i : Ink) : OKv cx 59 [.agg (eKey a), .agg (eKey b), .agg (eInk i)] (.tup [.agg (eMark (wM a b i)), ab (wB a b i)]) := by
  unfold wM
  cases h : confV a b i with
  | false =>
    have e : wB a b i = false := by unfold wB; rw [h]; rfl
    rw [e, if_neg Bool.false_ne_true]
    exact Witness_bad a b i h
  | true =>
    have e : wB a b i = witB a b i := by unfold wB; rw [h]; rfl
    rw [e]
    cases hw : witB a b i with
    | true => exact Witness_good a b i h _ _ (.inl ⟨hw, rfl, rfl⟩)
    | false => exact Witness_good a b i h _ _ (.inr ⟨hw, rfl, rfl⟩)
def confR (a b : Key) (i : Ink) : Bool := confV a b i && (decide ((cntF (dropB a.pat.toNat b.pat.toNat) : Int) ≤ i.faint + i.stray) && decide ((cntF (dropB b.pat.toNat a.pat.toNat) : Int) ≤ i.faint + i.stray))
theorem conf_eq (a b : Key) (i : Ink) : wB a b i = confR a b i := by
  unfold wB confR
  cases h : confV a b i with
  | false => rfl
  | true =>
    obtain ⟨h1, h2, h3, g⟩ := confV_iff.1 h
    obtain ⟨_, _, k3, k4⟩ := keyV_iff.1 h1
    obtain ⟨_, _, k5, k6⟩ := keyV_iff.1 h2
    obtain ⟨i1, i2, i3⟩ := inkV_iff.1 h3
    rw [Bool.true_and, Bool.true_and]
    have w := witness_iff (a := a.pat.toNat) (b := b.pat.toNat) (F := i.faint.toNat) (S := i.stray.toNat) (by omega) (by omega)
    have ea : ∀ p s b', allowI p s b' i = allowF p s b' i.faint.toNat i.stray.toNat := fun p s b' => by
      unfold allowI allowF
      rw [Bool.eq_iff_iff]
      simp only [Bool.and_eq_true, decide_eq_true_eq]
      omega
    unfold witB
    rw [ea, ea, w, Bool.eq_iff_iff]
    simp only [Bool.and_eq_true, decide_eq_true_eq]
    omega
theorem Confusable_ok (a b : Key) (i : Ink) : OKv cx 61 [.agg (eKey a), .agg (eKey b), .agg (eInk i)] (ab (confR a b i)) := by
  rw [← conf_eq]
  have c1 := Witness_ok a b i
  generalize wM a b i = M at *
  generalize wB a b i = B at *
  refine OKat.of_body (rs := [6]) Tryd.func61 rfl (by decide +kernel) rfl (by simp [Tryd.ntmps61]) ?_
  simp only [Tryd.ntmps61]
  repeat' first
    | apply AW.seq | apply AW.region | apply AW.ret | apply AW.block | apply AW.skip | apply AW.exit | apply AW.scope | apply AW.label | apply AWL.nil
    | ((first | (apply W.step cx_ok; decide) | apply W.store cx_ok | apply AW.cond); (simp (disch := omega) only [push_cast, simprocAttr, natNe, List.mem_cons, List.not_mem_nil, TyD.isAgg, Nat.add_assoc, List.map_nil, List.length_nil, Bool.and_self, Bool.and_true, Bool.true_and, Bool.false_and, Bool.and_false, Bool.not_true, Bool.not_false, Bool.false_eq_true] <;> rfl); all_goals try ((with_reducible intro hI); try first | (cases hI; done) | (simp only [INTS, not_true_eq_false] at hI; try first | (exfalso; omega) | (have hT : True := hI; clear hT hI))))
    | ((apply W.callv cx_ok; decide); (iterate 2 (simp (disch := omega) only [push_cast, simprocAttr, natNe, List.mem_cons, List.not_mem_nil, TyD.isAgg, Nat.add_assoc, List.map_nil, List.length_nil, Bool.and_self, Bool.and_true, Bool.true_and, Bool.false_and, Bool.and_false, Bool.not_true, Bool.not_false, Bool.false_eq_true] <;> rfl)); (with_reducible first | exact c1); try first | rfl | (simp (disch := omega) only [push_cast, simprocAttr, natNe, List.mem_cons, List.not_mem_nil, TyD.isAgg, Nat.add_assoc, List.map_nil, List.length_nil, Bool.and_self, Bool.and_true, Bool.true_and, Bool.false_and, Bool.and_false, Bool.not_true, Bool.not_false, Bool.false_eq_true] <;> rfl))
    | ((first | apply W.ret1 | apply W.end1); (iterate 2 (try (simp (disch := omega) only [push_cast, simprocAttr, natNe, List.mem_cons, List.not_mem_nil, TyD.isAgg, Nat.add_assoc, List.map_nil, List.length_nil, Bool.and_self, Bool.and_true, Bool.true_and, Bool.false_and, Bool.and_false, Bool.not_true, Bool.not_false, Bool.false_eq_true] <;> rfl))))

  all_goals (show _ = _; rfl)
end Go.Proofs.Ds
