/-
  Contracts of functions, proved by going through their code. No conditions.
-/
import Derived.Shelf.SlSortCmp.NoneTotal
import Derived.ProofKit
import Derived.LaidMore
import Derived.OpenShut
import Derived.Carry
import Derived.Stop.Joined
import Derived.Test.YtmcchoalekmklaaGreatZam
import Derived.Test.YtmcchoalekmklaaGreatZax
import Derived.Test.YtmcchoalekmklaaGreatZaz
set_option linter.unusedVariables false
set_option linter.unusedSimpArgs false
set_option maxHeartbeats 8000000
set_option maxRecDepth 10000
namespace Go.Proofs.Ds
open Go Go.Pg Go.Proofs Go.Proofs.Yt
attribute [local push_cast] Bool.and_false Bool.and_self Bool.and_true Bool.false_and Bool.false_eq_true Bool.not_false Bool.not_true Bool.true_and List.all_append List.all_cons List.all_nil List.drop_succ_cons List.drop_zero List.getD_cons_zero List.getElem?_cons_zero List.isEmpty_cons List.length_append List.length_cons List.length_drop List.length_nil List.length_take List.map_append List.map_cons List.map_nil List.mem_cons List.not_mem_nil List.take_length List.take_of_length_le Nat.add_assoc Nat.zero_add TyD.isAgg and_self and_true dropM isEmpty_map leT natNe pureA pureL takeM true_and
theorem heE (l : List Span) : (∀ e ∈ l.map eSpan, e.length = 2) := fun e he => by obtain ⟨y, _, rfl⟩ := List.mem_map.1 he; rfl
theorem meet_ok (a b : List Span) (ha : inC a) (hb : inC b) (hwa : ∀ s ∈ a, s.lo ≤ s.hi) (hwb : ∀ s ∈ b, s.lo ≤ s.hi) (hl : a.length ≤ 1000000) (hl2 : b.length ≤ 1000000) : OKv cx 46 [lSpan a, lSpan b] (lSpan (meetF a b)) := by
  obtain ⟨RES, hRES⟩ : ∃ z, meetF a b = z := ⟨_, rfl⟩
  rw [hRES]
  obtain ⟨NN, hNN⟩ : ∃ z, a.length + b.length = z := ⟨_, rfl⟩
  refine OKat.of_body (rs := [4]) Tryz.func46 rfl (by decide +kernel) rfl (by simp [Tryz.ntmps46]) ?_
  simp only [Tryz.ntmps46]
  repeat' first
    | apply jA | apply jB | apply jD | apply jI
    | ((apply jK kO; decide); (simp (disch := (first | omega | (simp only [vC]; omega))) only [push_cast, simprocAttr] <;> rfl))

  refine AW.adopt 5 2 29 ?_ ?_
  · (simp (disch := omega) only [push_cast, simprocAttr] <;> rfl)
  refine AW.loop (fun n s => ∃ (A B O : List Span), n = A.length + B.length ∧ (O ++ meetF A B = RES) ∧ (A.Sublist a) ∧ (B.Sublist b) ∧ (O.length + A.length + B.length ≤ NN) ∧ 1 ≤ s.nx ∧ s.tm 0 = lSpan A ∧ s.tm 1 = lSpan B ∧ s.tm 5 = .ref 0 0 O.length ∧ Pg.rowAt s.H (0) = some ({ k := 2, es := O.map eSpan, ty := 29, lo := O.length })) ((a.length + b.length)) ⟨a, b, [], rfl, (by rw [hRES]; rfl), (List.Sublist.refl _), (List.Sublist.refl _), (by simp; omega), ?_, ?_, ?_, ?_, ?_⟩ ?_
  iterate 5 (first | (simp (disch := omega) only [push_cast, simprocAttr] <;> first | rfl | omega) | omega)
  rintro n1 s1 ⟨A1, B1, O1, hn1, hp01, hp11, hp21, hp31, hnl1, hS1⟩
  have hZ1 : (0 : Nat) ≠ s1.nx ∧ s1.nx ≠ (0 : Nat) := by omega
  refine AW.fresh fun hfr1 => ?_
  rcases A1 with _ | ⟨x, A1⟩
  · rw [meetF, List.append_nil] at hp01
    subst hp01
    repeat' first
      | apply jA | apply jB | apply jC | apply jF | apply jI
      | ((first | (apply jK kO; decide) | (apply jN; rfl; decide) | apply jR); (simp (disch := (first | omega | (simp only [vC]; omega))) only [push_cast, simprocAttr, hS1, hZ1] <;> rfl); all_goals try ((with_reducible intro hI); try first | (cases hI; done) | (simp only [INTS, zL] at hI; try first | (exfalso; omega) | (have hT : True := hI; clear hT hI))))
      | ((apply W.ret1); (iterate 2 (try (simp (disch := (first | omega | (simp only [vC]; omega))) only [push_cast, simprocAttr, hS1, hZ1] <;> rfl))))

    all_goals (show _ = _; rfl)
  rcases B1 with _ | ⟨y, B1⟩
  · rw [meetF, List.append_nil] at hp01
    subst hp01
    have h0 : (0 : Int) < (A1.length : Int) + 1 := by omega
    repeat' first
      | apply jA | apply jB | apply jC | apply jF | apply jI
      | ((first | (apply jK kO; decide) | (apply jN; rfl; decide) | apply jR); (simp (disch := (first | omega | (simp only [vC]; omega))) only [push_cast, simprocAttr, hS1, hZ1, h0] <;> rfl); all_goals try ((with_reducible intro hI); try first | (cases hI; done) | (simp only [INTS, zL] at hI; try first | (exfalso; omega) | (have hT : True := hI; clear hT hI))))
      | ((apply W.ret1); (iterate 2 (try (simp (disch := (first | omega | (simp only [vC]; omega))) only [push_cast, simprocAttr, hS1, hZ1, h0] <;> rfl))))

    all_goals (show _ = _; rfl)
  have hA := hp11
  have hB := hp21
  have hxa := ha x (hA.subset (by simp))
  have hya := hb y (hB.subset (by simp))
  have hxw := hwa x (hA.subset (by simp))
  have hyw := hwb y (hB.subset (by simp))
  have hA2 : A1.Sublist a := (List.sublist_cons_self _ _).trans hA
  have hB2 : B1.Sublist b := (List.sublist_cons_self _ _).trans hB
  have hlA := hA.length_le
  have hlB := hB.length_le
  simp only [List.length_cons] at hlA hlB hp31
  have h0 : (0 : Int) < (A1.length : Int) + 1 := by omega
  have h1 : (0 : Int) < (B1.length : Int) + 1 := by omega
  have g1 : (1 ≤ A1.length + 1) = True := eq_true (by omega)
  have g2 : (1 ≤ B1.length + 1) = True := eq_true (by omega)
  have e1 : (∀ e ∈ (x :: A1).map eSpan, e.length = 2) = True := eq_true (heE (x :: A1))
  have e2 : (∀ e ∈ (y :: B1).map eSpan, e.length = 2) = True := eq_true (heE (y :: B1))
  have e3 : (1 ≤ A1.length + 1 ∧ A1.length + 1 ≤ ((x :: A1).map eSpan).length ∧ ∀ e ∈ (x :: A1).map eSpan, e.length = 2) = True := eq_true ⟨by omega, by simp, heE (x :: A1)⟩
  have e4 : (1 ≤ B1.length + 1 ∧ B1.length + 1 ≤ ((y :: B1).map eSpan).length ∧ ∀ e ∈ (y :: B1).map eSpan, e.length = 2) = True := eq_true ⟨by omega, by simp, heE (y :: B1)⟩
  rw [meetF] at hp01
  unfold cutS at hp01
  dsimp only at hp01
  obtain ⟨C1, hC1⟩ : ∃ z, max x.lo y.lo = z := ⟨_, rfl⟩
  obtain ⟨C2, hC2⟩ : ∃ z, min x.hi y.hi = z := ⟨_, rfl⟩
  rw [hC1, hC2] at hp01
  by_cases hq : C1 ≤ C2 <;> by_cases hr : x.hi < y.hi
  · rw [if_pos hq, if_pos hr] at hp01
    repeat' first
      | apply jA | apply jB | apply jD | apply jE | apply jI | apply jJ
      | refine AW.draw (id := 3) cx_mixed [20] [] [] 21 (by decide +kernel) ?_
      | refine AW.draw (id := 6) cx_mixed [] [] [] 0 (by decide +kernel) ?_
      | ((first | (apply jK kO; decide) | (apply jL kO; decide; decide) | (apply jN; rfl; decide) | apply jR); (simp (disch := (first | omega | (simp only [vC]; omega))) only [push_cast, simprocAttr, hS1, hZ1, h0, h1, g1, g2, e1, e2, e3, e4, hC1, hC2, hq, hr, hfr1] <;> first | rfl | (simp only [List.length_map, List.length_cons, e1, e2, e3, e4, g1, g2, Nat.le_refl, and_self, ite_true, true_and, and_true]; rfl)); all_goals try ((with_reducible intro hI); try first | (cases hI; done) | (simp only [INTS, zL] at hI; try first | (exfalso; omega) | (have hT : True := hI; clear hT hI))))
      | ((apply D.store kO; decide); (simp (disch := (first | omega | (simp only [vC]; omega))) only [push_cast, simprocAttr, hS1, hZ1, h0, h1, g1, g2, e1, e2, e3, e4, hC1, hC2, hq, hr, hfr1] <;> rfl); try first | exact .inl rfl | exact .inr (by simp))
      | ((apply D.alloc kO; decide; decide); (simp (disch := (first | omega | (simp only [vC]; omega))) only [push_cast, simprocAttr, hS1, hZ1, h0, h1, g1, g2, e1, e2, e3, e4, hC1, hC2, hq, hr, hfr1] <;> rfl); (simp (disch := (first | omega | (simp only [vC]; omega))) only [push_cast, simprocAttr, hS1, hZ1, h0, h1, g1, g2, e1, e2, e3, e4, hC1, hC2, hq, hr, hfr1, updH_at]); (simp (disch := (first | omega | (simp only [vC]; omega))) only [push_cast, simprocAttr, hS1, hZ1, h0, h1, g1, g2, e1, e2, e3, e4, hC1, hC2, hq, hr, hfr1] <;> omega))
      | (apply jT kO; decide; rfl; rfl; rfl; decide; (iterate 3 (simp (disch := (first | omega | (simp only [vC]; omega))) only [push_cast, simprocAttr, hS1, hZ1, h0, h1, g1, g2, e1, e2, e3, e4, hC1, hC2, hq, hr, hfr1] <;> rfl)); (first | (focus (simp; done)) | (intro c hc; obtain ⟨x, _, rfl⟩ := List.mem_map.1 hc; rfl)); ((first | rfl | simp (disch := omega) only [push_cast])); ((try dsimp only); (try simp only [vC]); omega); ((try dsimp only); (try simp only [vC]); omega))
    all_goals (refine ⟨(A1.length + (B1.length + 1)), ?_, A1, (y :: B1), (O1 ++ [⟨C1, C2⟩]), rfl, (by rw [List.append_assoc]; exact hp01), hA2, hB, (by (try simp only [List.length_append, List.length_cons, List.length_nil]); omega), ?_, ?_, ?_, ?_, ?_⟩; ((simp only [List.length_cons] at *; omega)); all_goals first | (simp (disch := omega) only [push_cast, simprocAttr, hS1, hZ1, h0, h1, g1, g2, e1, e2, e3, e4, hC1, hC2, hq, hr, hfr1] <;> first | rfl | omega) | omega)
  · rw [if_pos hq, if_neg hr] at hp01
    repeat' first
      | apply jA | apply jB | apply jD | apply jE | apply jI | apply jJ
      | refine AW.draw (id := 3) cx_mixed [20] [] [] 21 (by decide +kernel) ?_
      | refine AW.draw (id := 6) cx_mixed [] [] [] 0 (by decide +kernel) ?_
      | ((first | (apply jK kO; decide) | (apply jL kO; decide; decide) | (apply jN; rfl; decide) | apply jR); (simp (disch := (first | omega | (simp only [vC]; omega))) only [push_cast, simprocAttr, hS1, hZ1, h0, h1, g1, g2, e1, e2, e3, e4, hC1, hC2, hq, hr, hfr1] <;> first | rfl | (simp only [List.length_map, List.length_cons, e1, e2, e3, e4, g1, g2, Nat.le_refl, and_self, ite_true, true_and, and_true]; rfl)); all_goals try ((with_reducible intro hI); try first | (cases hI; done) | (simp only [INTS, zL] at hI; try first | (exfalso; omega) | (have hT : True := hI; clear hT hI))))
      | ((apply D.store kO; decide); (simp (disch := (first | omega | (simp only [vC]; omega))) only [push_cast, simprocAttr, hS1, hZ1, h0, h1, g1, g2, e1, e2, e3, e4, hC1, hC2, hq, hr, hfr1] <;> rfl); try first | exact .inl rfl | exact .inr (by simp))
      | ((apply D.alloc kO; decide; decide); (simp (disch := (first | omega | (simp only [vC]; omega))) only [push_cast, simprocAttr, hS1, hZ1, h0, h1, g1, g2, e1, e2, e3, e4, hC1, hC2, hq, hr, hfr1] <;> rfl); (simp (disch := (first | omega | (simp only [vC]; omega))) only [push_cast, simprocAttr, hS1, hZ1, h0, h1, g1, g2, e1, e2, e3, e4, hC1, hC2, hq, hr, hfr1, updH_at]); (simp (disch := (first | omega | (simp only [vC]; omega))) only [push_cast, simprocAttr, hS1, hZ1, h0, h1, g1, g2, e1, e2, e3, e4, hC1, hC2, hq, hr, hfr1] <;> omega))
      | (apply jT kO; decide; rfl; rfl; rfl; decide; (iterate 3 (simp (disch := (first | omega | (simp only [vC]; omega))) only [push_cast, simprocAttr, hS1, hZ1, h0, h1, g1, g2, e1, e2, e3, e4, hC1, hC2, hq, hr, hfr1] <;> rfl)); (first | (focus (simp; done)) | (intro c hc; obtain ⟨x, _, rfl⟩ := List.mem_map.1 hc; rfl)); ((first | rfl | simp (disch := omega) only [push_cast])); ((try dsimp only); (try simp only [vC]); omega); ((try dsimp only); (try simp only [vC]); omega))
    all_goals (refine ⟨((A1.length + 1) + B1.length), ?_, (x :: A1), B1, (O1 ++ [⟨C1, C2⟩]), rfl, (by rw [List.append_assoc]; exact hp01), hA, hB2, (by (try simp only [List.length_append, List.length_cons, List.length_nil]); omega), ?_, ?_, ?_, ?_, ?_⟩; ((simp only [List.length_cons] at *; omega)); all_goals first | (simp (disch := omega) only [push_cast, simprocAttr, hS1, hZ1, h0, h1, g1, g2, e1, e2, e3, e4, hC1, hC2, hq, hr, hfr1] <;> first | rfl | omega) | omega)
  · rw [if_neg hq, if_pos hr] at hp01
    repeat' first
      | apply jA | apply jB | apply jD | apply jE | apply jI | apply jJ
      | refine AW.draw (id := 3) cx_mixed [20] [] [] 21 (by decide +kernel) ?_
      | refine AW.draw (id := 6) cx_mixed [] [] [] 0 (by decide +kernel) ?_
      | ((first | (apply jK kO; decide) | (apply jL kO; decide; decide) | (apply jN; rfl; decide) | apply jR); (simp (disch := (first | omega | (simp only [vC]; omega))) only [push_cast, simprocAttr, hS1, hZ1, h0, h1, g1, g2, e1, e2, e3, e4, hC1, hC2, hq, hr, hfr1] <;> first | rfl | (simp only [List.length_map, List.length_cons, e1, e2, e3, e4, g1, g2, Nat.le_refl, and_self, ite_true, true_and, and_true]; rfl)); all_goals try ((with_reducible intro hI); try first | (cases hI; done) | (simp only [INTS, zL] at hI; try first | (exfalso; omega) | (have hT : True := hI; clear hT hI))))
      | ((apply D.store kO; decide); (simp (disch := (first | omega | (simp only [vC]; omega))) only [push_cast, simprocAttr, hS1, hZ1, h0, h1, g1, g2, e1, e2, e3, e4, hC1, hC2, hq, hr, hfr1] <;> rfl); try first | exact .inl rfl | exact .inr (by simp))
      | ((apply D.alloc kO; decide; decide); (simp (disch := (first | omega | (simp only [vC]; omega))) only [push_cast, simprocAttr, hS1, hZ1, h0, h1, g1, g2, e1, e2, e3, e4, hC1, hC2, hq, hr, hfr1] <;> rfl); (simp (disch := (first | omega | (simp only [vC]; omega))) only [push_cast, simprocAttr, hS1, hZ1, h0, h1, g1, g2, e1, e2, e3, e4, hC1, hC2, hq, hr, hfr1, updH_at]); (simp (disch := (first | omega | (simp only [vC]; omega))) only [push_cast, simprocAttr, hS1, hZ1, h0, h1, g1, g2, e1, e2, e3, e4, hC1, hC2, hq, hr, hfr1] <;> omega))
    all_goals (refine ⟨(A1.length + (B1.length + 1)), ?_, A1, (y :: B1), O1, rfl, hp01, hA2, hB, (by (try simp only [List.length_append, List.length_cons, List.length_nil]); omega), ?_, ?_, ?_, ?_, ?_⟩; ((simp only [List.length_cons] at *; omega)); all_goals first | (simp (disch := omega) only [push_cast, simprocAttr, hS1, hZ1, h0, h1, g1, g2, e1, e2, e3, e4, hC1, hC2, hq, hr, hfr1] <;> first | rfl | omega) | omega)
  · rw [if_neg hq, if_neg hr] at hp01
    repeat' first
      | apply jA | apply jB | apply jD | apply jE | apply jI | apply jJ
      | refine AW.draw (id := 3) cx_mixed [20] [] [] 21 (by decide +kernel) ?_
      | refine AW.draw (id := 6) cx_mixed [] [] [] 0 (by decide +kernel) ?_
      | ((first | (apply jK kO; decide) | (apply jL kO; decide; decide) | (apply jN; rfl; decide) | apply jR); (simp (disch := (first | omega | (simp only [vC]; omega))) only [push_cast, simprocAttr, hS1, hZ1, h0, h1, g1, g2, e1, e2, e3, e4, hC1, hC2, hq, hr, hfr1] <;> first | rfl | (simp only [List.length_map, List.length_cons, e1, e2, e3, e4, g1, g2, Nat.le_refl, and_self, ite_true, true_and, and_true]; rfl)); all_goals try ((with_reducible intro hI); try first | (cases hI; done) | (simp only [INTS, zL] at hI; try first | (exfalso; omega) | (have hT : True := hI; clear hT hI))))
      | ((apply D.store kO; decide); (simp (disch := (first | omega | (simp only [vC]; omega))) only [push_cast, simprocAttr, hS1, hZ1, h0, h1, g1, g2, e1, e2, e3, e4, hC1, hC2, hq, hr, hfr1] <;> rfl); try first | exact .inl rfl | exact .inr (by simp))
      | ((apply D.alloc kO; decide; decide); (simp (disch := (first | omega | (simp only [vC]; omega))) only [push_cast, simprocAttr, hS1, hZ1, h0, h1, g1, g2, e1, e2, e3, e4, hC1, hC2, hq, hr, hfr1] <;> rfl); (simp (disch := (first | omega | (simp only [vC]; omega))) only [push_cast, simprocAttr, hS1, hZ1, h0, h1, g1, g2, e1, e2, e3, e4, hC1, hC2, hq, hr, hfr1, updH_at]); (simp (disch := (first | omega | (simp only [vC]; omega))) only [push_cast, simprocAttr, hS1, hZ1, h0, h1, g1, g2, e1, e2, e3, e4, hC1, hC2, hq, hr, hfr1] <;> omega))
    all_goals (refine ⟨((A1.length + 1) + B1.length), ?_, (x :: A1), B1, O1, rfl, hp01, hA, hB2, (by (try simp only [List.length_append, List.length_cons, List.length_nil]); omega), ?_, ?_, ?_, ?_, ?_⟩; ((simp only [List.length_cons] at *; omega)); all_goals first | (simp (disch := omega) only [push_cast, simprocAttr, hS1, hZ1, h0, h1, g1, g2, e1, e2, e3, e4, hC1, hC2, hq, hr, hfr1] <;> first | rfl | omega) | omega)
end Go.Proofs.Ds

namespace Go.Proofs.Ds
open Go Go.Pg Go.Proofs Go.Proofs.Yt
attribute [local push_cast] Bool.and_false Bool.and_self Bool.and_true Bool.false_and Bool.false_eq_true Bool.not_false Bool.not_true Bool.true_and List.all_append List.all_cons List.all_nil List.isEmpty_cons List.length_append List.length_cons List.length_drop List.length_nil List.length_take List.map_append List.map_cons List.map_nil List.mem_cons List.not_mem_nil List.take_length List.take_of_length_le Nat.add_assoc Nat.zero_add TyD.isAgg and_self and_true dropM isEmpty_map leT natNe pureA pureL takeM true_and
theorem arcs_ok (l : List Span) (hi : inC l) (hw : ∀ s ∈ l, s.lo ≤ s.hi) (hl : l.length ≤ 1000000) : OKv cx 66 [lSpan l] (lArc (arcsF l)) := by
  refine OKat.of_body (rs := [2]) Tryz.func66 rfl (by decide +kernel) rfl (by simp [Tryz.ntmps66]) ?_
  simp only [Tryz.ntmps66]
  repeat' first
    | apply jA | apply jB | apply jD | apply jI
    | ((apply jK kO; decide); (simp (disch := (first | omega | (simp only [vC]; omega))) only [push_cast, simprocAttr] <;> rfl))

  refine AW.adopt 3 2 52 ?_ ?_
  · (simp (disch := omega) only [push_cast, simprocAttr] <;> rfl)
  refine AW.loop (fun n s => ∃ (k : Nat) (O : List Arc) (rest : List Span), n = rest.length ∧ (l.drop k = rest) ∧ (O ++ rest.map arcS = l.map arcS) ∧ (O.length = k) ∧ (k ≤ l.length) ∧ 1 ≤ s.nx ∧ s.tm 0 = lSpan l ∧ s.tm 3 = .ref 0 0 O.length ∧ s.tm 7 = lSpan l ∧ s.tm 8 = ai l.length ∧ s.tm 9 = ai k ∧ Pg.rowAt s.H (0) = some ({ k := 2, es := O.map eArc, ty := 52, lo := O.length })) (l.length) ⟨0, [], l, rfl, rfl, rfl, rfl, (Nat.zero_le _), ?_, ?_, ?_, ?_, ?_, ?_, ?_⟩ ?_
  iterate 7 (first | (simp (disch := omega) only [push_cast, simprocAttr] <;> first | rfl | omega) | omega)
  rintro n1 s1 ⟨k1, O1, rest1, hn1, hp01, hp11, hp21, hp31, hnl1, hS1⟩
  have hZ1 : (0 : Nat) ≠ s1.nx ∧ s1.nx ≠ (0 : Nat) := by omega
  rcases rest1 with _ | ⟨x, rest1⟩
  rotate_left
  · obtain ⟨hk, hg, hd', hl', hm', hx⟩ := drop_cons hp01 eSpan []
    have hxi := hi x hm'
    have hxw := hw x hm'
    repeat' first
      | apply jA | apply jB | apply jD | apply jE | apply jI
      | ((first | (apply jK kO; decide) | apply jM kO | apply jR); (simp (disch := (first | omega | (simp only [vC]; omega))) only [push_cast, simprocAttr, hS1, hZ1, hk, hg, hx] <;> rfl); all_goals try ((with_reducible intro hI); try first | (cases hI; done) | (simp only [INTS, zL] at hI; try first | (exfalso; omega) | (have hT : True := hI; clear hT hI))))
      | (apply jT kO; decide; rfl; rfl; rfl; decide; (iterate 3 (simp (disch := (first | omega | (simp only [vC]; omega))) only [push_cast, simprocAttr, hS1, hZ1, hk, hg, hx] <;> rfl)); (first | (focus (simp; done)) | (intro c hc; obtain ⟨x, _, rfl⟩ := List.mem_map.1 hc; rfl)); ((first | rfl | simp (disch := omega) only [push_cast])); ((try dsimp only); (try simp only [vC]); omega); ((try dsimp only); (try simp only [vC]); omega))

    all_goals (refine ⟨rest1.length, ?_, k1 + 1, (O1 ++ [arcS x]), rest1, rfl, hd', (by rw [List.append_assoc]; exact hp11), (by rw [List.length_append, List.length_singleton]; omega), (by omega), ?_, ?_, ?_, ?_, ?_, ?_, ?_⟩; ((simp only [List.length_cons] at *; omega)); all_goals first | (simp (disch := omega) only [push_cast, simprocAttr, hS1, hZ1, hk, hg, hx, arcS] <;> first | rfl | omega) | omega)
  have hk := drop_nil hp01
  simp only [List.map_nil, List.append_nil] at hp11
  subst hp11
  have hlen : (l.map arcS).length = l.length := List.length_map _
  rw [hlen] at hS1 hp21
  subst hp21
  by_cases h2 : l.length < 2
  · have h2T : ((l.length : Int) < 2) = True := eq_true (by omega)
    have hA : arcsF l = l.map arcS := by unfold arcsF around; rw [decide_eq_false (by omega : ¬ 1 < l.length)]; rfl
    rw [hA]
    repeat' first
      | apply jA | apply jB | apply jC | apply jF | apply jI
      | ((first | (apply jK kO; decide) | (apply jN; rfl; decide) | apply jR); (simp (disch := (first | omega | (simp only [vC, hlen]; omega))) only [push_cast, simprocAttr, hS1, hZ1, hk, h2T, hlen] <;> rfl); all_goals try ((with_reducible intro hI); try first | (cases hI; done) | (simp only [INTS, zL] at hI; try first | (exfalso; omega) | (have hT : True := hI; clear hT hI))))
      | ((apply W.ret1); (iterate 2 (try (simp (disch := (first | omega | (simp only [vC, hlen]; omega))) only [push_cast, simprocAttr, hS1, hZ1, hk, h2T, hlen] <;> rfl))))

    all_goals (show _ = _; rfl)
  have h2F : ((l.length : Int) < 2) = False := eq_false (by omega)
  obtain ⟨S0, hS0⟩ : ∃ s, l[0]? = some s := ⟨_, List.getElem?_eq_getElem (by omega)⟩
  obtain ⟨S1, hS1'⟩ : ∃ s, l[l.length - 1]? = some s := ⟨_, List.getElem?_eq_getElem (by omega)⟩
  have d0 : l.getD 0 default = S0 := by rw [List.getD_eq_getElem?_getD, hS0]; rfl
  have d1 : l.getD (l.length - 1) default = S1 := by rw [List.getD_eq_getElem?_getD, hS1']; rfl
  have hS0i := hi S0 (List.mem_of_getElem? hS0)
  have hS1i := hi S1 (List.mem_of_getElem? hS1')
  have hS0w := hw S0 (List.mem_of_getElem? hS0)
  have hS1w := hw S1 (List.mem_of_getElem? hS1')
  have a0 : (l.map eSpan)[0]? = some (eSpan S0) := by rw [List.getElem?_map, hS0]; rfl
  have a1 : (l.map eSpan)[l.length - 1]? = some (eSpan S1) := by rw [List.getElem?_map, hS1']; rfl
  have b0 : (l.map eSpan).getD 0 [] = eSpan S0 := by rw [List.getD_eq_getElem?_getD, a0]; rfl
  have b1 : (l.map eSpan).getD (l.length - 1) [] = eSpan S1 := by rw [List.getD_eq_getElem?_getD, a1]; rfl
  have z0 : (0 : Int) < (l.length : Int) := by omega
  have z1 : (0 : Int) ≤ (l.length : Int) - 1 := by omega
  have z2 : (l.length : Int) - 1 < (l.length : Int) := by omega
  have z3 : ((l.length : Int) - 1).toNat = l.length - 1 := by omega
  have z4 : 0 < l.length := by omega
  have z5 : l.length - 1 < l.length := by omega
  by_cases h3 : S0.lo = 0
  rotate_left
  · have h3F : (S0.lo = 0) = False := eq_false h3
    have hA : arcsF l = l.map arcS := by unfold arcsF around; rw [d0, decide_eq_false h3, Bool.and_false, Bool.false_and]; rfl
    rw [hA]
    repeat' first
      | apply jA | apply jB | apply jC | apply jF | apply jI
      | ((first | (apply jK kO; decide) | (apply jN; rfl; decide) | apply jR); (simp (disch := (first | omega | (simp only [vC, hlen]; omega))) only [push_cast, simprocAttr, hS1, hZ1, hk, h2F, h3F, a0, b0, z0, z1, z2, z3, z4, z5, hlen] <;> rfl); all_goals try ((with_reducible intro hI); try first | (cases hI; done) | (simp only [INTS, zL] at hI; try first | (exfalso; omega) | (have hT : True := hI; clear hT hI))))
      | ((apply W.ret1); (iterate 2 (try (simp (disch := (first | omega | (simp only [vC, hlen]; omega))) only [push_cast, simprocAttr, hS1, hZ1, hk, h2F, h3F, a0, b0, z0, z1, z2, z3, z4, z5, hlen] <;> rfl))))

    all_goals (show _ = _; rfl)
  have h3T : (S0.lo = 0) = True := eq_true h3
  by_cases h4 : S1.hi = 43199
  rotate_left
  · have h4F : (S1.hi = 43199) = False := eq_false h4
    have hA : arcsF l = l.map arcS := by unfold arcsF around; rw [d1, decide_eq_false h4, Bool.and_false]; rfl
    rw [hA]
    repeat' first
      | apply jA | apply jB | apply jC | apply jF | apply jI
      | ((first | (apply jK kO; decide) | (apply jN; rfl; decide) | apply jR); (simp (disch := (first | omega | (simp only [vC, hlen]; omega))) only [push_cast, simprocAttr, hS1, hZ1, hk, h2F, h3T, h4F, a0, b0, a1, b1, z0, z1, z2, z3, z4, z5, hlen] <;> rfl); all_goals try ((with_reducible intro hI); try first | (cases hI; done) | (simp only [INTS, zL] at hI; try first | (exfalso; omega) | (have hT : True := hI; clear hT hI))))
      | ((apply W.ret1); (iterate 2 (try (simp (disch := (first | omega | (simp only [vC, hlen]; omega))) only [push_cast, simprocAttr, hS1, hZ1, hk, h2F, h3T, h4F, a0, b0, a1, b1, z0, z1, z2, z3, z4, z5, hlen] <;> rfl))))

    all_goals (show _ = _; rfl)
  have h4T : (S1.hi = 43199) = True := eq_true h4
  have hA := arcs_prog (l := l) (by unfold around; rw [d0, d1, decide_eq_true h3, decide_eq_true h4, decide_eq_true (by omega : 1 < l.length)]; rfl)
  rw [d0, d1] at hA
  have c0 : ((l.map arcS).map eArc)[0]? = some [ai S0.lo, ai (S0.hi - S0.lo)] := by rw [List.getElem?_map, List.getElem?_map, hS0]; rfl
  have c1 : ((l.map arcS).map eArc)[l.length - 1]? = some [ai S1.lo, ai (S1.hi - S1.lo)] := by rw [List.getElem?_map, List.getElem?_map, hS1']; rfl
  have e0 : ((l.map arcS).map eArc).getD 0 [] = [ai S0.lo, ai (S0.hi - S0.lo)] := by rw [List.getD_eq_getElem?_getD, c0]; rfl
  have e1 : ((l.map arcS).map eArc).getD (l.length - 1) [] = [ai S1.lo, ai (S1.hi - S1.lo)] := by rw [List.getD_eq_getElem?_getD, c1]; rfl
  have hset : ((l.map arcS).map eArc).set (l.length - 1) [ai S1.lo, ai (S1.hi - S1.lo + (S0.hi - S0.lo + 1))] = ((l.map arcS).set (l.length - 1) ⟨S1.lo, S1.hi - S1.lo + (S0.hi - S0.lo + 1)⟩).map eArc := by rw [List.map_set]
  obtain ⟨SM, hSM⟩ : ∃ z, (l.map arcS).set (l.length - 1) ⟨S1.lo, S1.hi - S1.lo + (S0.hi - S0.lo + 1)⟩ = z := ⟨_, rfl⟩
  have hsl : SM.length = l.length := by rw [← hSM, List.length_set, List.length_map]
  rw [hSM] at hset hA
  rw [← hA]
  obtain ⟨OA, hOA⟩ : ∃ z, l.map arcS = z := ⟨_, rfl⟩
  rw [hOA] at c0 c1 e0 e1 hset hlen hS1
  have w1 : (1 ≤ l.length) = True := eq_true (by omega)
  have w2 : (l.length ≤ 1 + (l.length - 1)) = True := eq_true (by omega)
  have w3 : (1 + (l.length - 1) ≤ l.length) = True := eq_true (by omega)
  repeat' first
    | apply jA | apply jB | apply jC | apply jE | apply jF | apply jI
    | refine AW.draw (id := 10) cx_mixed [14] [] [0] 0 (by decide +kernel) ?_
    | ((first | (apply jK kO; decide) | (apply jL kO; decide; decide) | (apply jN; rfl; decide) | apply jR); (simp (disch := (first | omega | (simp only [vC, hlen, hsl]; omega))) only [push_cast, simprocAttr, hS1, hZ1, hk, h2F, h3T, h4T, a0, b0, a1, b1, c0, c1, e0, e1, hset, hlen, hsl, z0, z1, z2, z3, z4, z5, w1, w2, w3] <;> rfl); all_goals try ((with_reducible intro hI); try first | (cases hI; done) | (simp only [INTS, zL] at hI; try first | (exfalso; omega) | (have hT : True := hI; clear hT hI))))
    | ((apply D.store kO; decide); (simp (disch := (first | omega | (simp only [vC, hlen, hsl]; omega))) only [push_cast, simprocAttr, hS1, hZ1, hk, h2F, h3T, h4T, a0, b0, a1, b1, c0, c1, e0, e1, hset, hlen, hsl, z0, z1, z2, z3, z4, z5, w1, w2, w3] <;> rfl); try first | exact .inl rfl | exact .inr (by simp))
    | ((apply W.ret1); (iterate 2 (try (simp (disch := (first | omega | (simp only [vC, hlen, hsl]; omega))) only [push_cast, simprocAttr, hS1, hZ1, hk, h2F, h3T, h4T, a0, b0, a1, b1, c0, c1, e0, e1, hset, hlen, hsl, z0, z1, z2, z3, z4, z5, w1, w2, w3] <;> rfl))))

  all_goals trace_state
end Go.Proofs.Ds

namespace Go.Proofs.Ds
open Go Go.Pg Go.Proofs Go.Proofs.Yt
attribute [local push_cast] Bool.false_eq_true List.length_nil List.map_nil List.mem_cons List.not_mem_nil Nat.add_assoc TyD.isAgg natNe
theorem canon_len : ∀ (l : List Span) (a : Int), canon l → (∀ s ∈ l, a ≤ s.lo ∧ s.hi ≤ 43199) → a ≤ 43200 → (l.length : Int) ≤ 43200 - a
  | [], a, _, _, h => by simp only [List.length_nil]; omega
  | s :: l, a, hc, hi, h => by
    obtain ⟨h1, h2, h3⟩ := canon_cons.1 hc
    have hs := hi s (by simp)
    have := canon_len l (s.hi + 1) h3 (fun t ht => ⟨by have := h2 t ht; omega, (hi t (by simp [ht])).2⟩) (by omega)
    simp only [List.length_cons]
    omega
theorem inC_len {l : List Span} (hc : canon l) (hi : inC l) : l.length ≤ 43200 := by
  have := canon_len l 0 hc hi (by omega)
  omega
theorem checkL_zero {l : List Arc} (h : checkL l = 0) : l.length ≤ 200 ∧ ∀ x ∈ l, validA x = true := by
  unfold checkL at h
  split at h
  · omega
  · split at h
    · rename_i h1 h2
      exact ⟨by omega, List.all_eq_true.1 h2⟩
    · omega
theorem piecesL_len : ∀ l : List Arc, (piecesL l).length ≤ 2 * l.length
  | [] => by simp [piecesL]
  | x :: l => by
    have := piecesL_len l
    rw [piecesL_cons, List.length_append, List.length_cons]
    have h2 : (piecesF x).length ≤ 2 := by unfold piecesF; split <;> simp
    omega
theorem pspans_ok (h0 : SortKC0 Tryz.prog 92) (A : List Arc) (hv : ∀ x ∈ A, validA x = true) (hA : A.length ≤ 400000) : OKv cx 67 [lArc A] (lSpan (spansS A)) := by
  have := piecesL_len A
  exact spans_ok A hv (by omega) (SortedFunc_ok sort130 h0 A hv (by omega) (by omega))
theorem both_good (h0 : SortKC0 Tryz.prog 92) (a b : List Arc) (f : FuncId) (R : List Span) (ha : checkL a = 0) (hb : checkL b = 0) (hop : OKv cx f [lSpan (spansS a), lSpan (spansS b)] (lSpan R)) (hc : canon R) (hi : inC R) :
    OKv cx 45 [lArc a, lArc b, .clo f []] (.tup [lArc (arcsF R), ai 0]) := by
  obtain ⟨la, va⟩ := checkL_zero ha
  obtain ⟨lb, vb⟩ := checkL_zero hb
  have c1 := acceptable_ok a (by omega)
  have c2 := acceptable_ok b (by omega)
  have c3 := pspans_ok h0 a va (by omega)
  have c4 := pspans_ok h0 b vb (by omega)
  have hl := inC_len hc hi
  have c5 := arcs_ok R hi hc.2 (by omega)
  rw [ha] at c1
  rw [hb] at c2
  refine OKat.of_body (rs := [6, 7]) Tryz.func45 rfl (by decide +kernel) rfl (by simp [Tryz.ntmps45]) ?_
  simp only [Tryz.ntmps45]
  repeat' first
    | apply jA | apply jB | apply jD | apply jI
    | ((apply jK kO; decide); (simp (disch := omega) only [push_cast, simprocAttr] <;> rfl))

  refine AW.loop (fun n s => ∃ (k : Nat), n = 2 - k ∧ (k ≤ 2) ∧ s.tm 0 = lArc a ∧ s.tm 1 = lArc b ∧ s.tm 2 = .clo f [] ∧ s.tm 13 = .agg [lArc a, lArc b] ∧ s.tm 14 = ai k) (2) ⟨0, rfl, (by omega), ?_, ?_, ?_, ?_, ?_⟩ ?_
  iterate 5 (first | (simp (disch := omega) only [push_cast, simprocAttr] <;> first | rfl | omega) | omega)
  rintro n s ⟨k, hn, hp0, hS⟩
  rcases (show k = 0 ∨ k = 1 ∨ k = 2 by omega) with rfl | rfl | rfl
  · have e0 : ((0 : Nat) : Int) = 0 := rfl
    repeat' first
      | apply jA | apply jB | apply jD | apply jE | apply jI
      | ((first | (apply jK kO; decide) | apply jR); (simp (disch := omega) only [push_cast, simprocAttr, hS, e0, Int.natCast_zero] <;> rfl); all_goals try ((with_reducible intro hI); try first | (cases hI; done) | (simp only [INTS, zL] at hI; try first | (exfalso; omega) | (have hT : True := hI; clear hT hI))))
      | ((apply jV kO; decide); (iterate 2 (simp (disch := omega) only [push_cast, simprocAttr, hS, e0, Int.natCast_zero] <;> rfl)); (with_reducible exact c1); try first | rfl | (simp (disch := omega) only [push_cast, simprocAttr, hS, e0, Int.natCast_zero] <;> rfl))

    all_goals (refine ⟨1, ?_, 1, rfl, (by omega), ?_, ?_, ?_, ?_, ?_⟩; (omega); all_goals first | (simp (disch := omega) only [push_cast, simprocAttr, hS, e0] <;> first | rfl | omega) | omega)
  · have e0 : ((1 : Nat) : Int) = 1 := rfl
    repeat' first
      | apply jA | apply jB | apply jD | apply jE | apply jI
      | ((first | (apply jK kO; decide) | apply jR); (simp (disch := omega) only [push_cast, simprocAttr, hS, e0, Int.natCast_one] <;> rfl); all_goals try ((with_reducible intro hI); try first | (cases hI; done) | (simp only [INTS, zL] at hI; try first | (exfalso; omega) | (have hT : True := hI; clear hT hI))))
      | ((apply jV kO; decide); (iterate 2 (simp (disch := omega) only [push_cast, simprocAttr, hS, e0, Int.natCast_one] <;> rfl)); (with_reducible exact c2); try first | rfl | (simp (disch := omega) only [push_cast, simprocAttr, hS, e0, Int.natCast_one] <;> rfl))

    all_goals (refine ⟨0, ?_, 2, rfl, (by omega), ?_, ?_, ?_, ?_, ?_⟩; (omega); all_goals first | (simp (disch := omega) only [push_cast, simprocAttr, hS, e0] <;> first | rfl | omega) | omega)
  · have e0 : ((2 : Nat) : Int) = 2 := rfl
    repeat' first
      | apply jA | apply jB | apply jC | apply jF | apply jI
      | ((first | (apply jK kO; decide) | apply jR); (simp (disch := omega) only [push_cast, simprocAttr, hS, e0] <;> rfl); all_goals try ((with_reducible intro hI); try first | (cases hI; done) | (simp only [INTS, zL] at hI; try first | (exfalso; omega) | (have hT : True := hI; clear hT hI))))
      | ((apply jV kO; decide); (iterate 2 (simp (disch := omega) only [push_cast, simprocAttr, hS, e0] <;> rfl)); (with_reducible first | exact c3 | exact c4 | exact c5 | exact hop); try first | rfl | (simp (disch := omega) only [push_cast, simprocAttr, hS, e0] <;> rfl))
      | ((apply W.ret2); (iterate 2 (try (simp (disch := omega) only [push_cast, simprocAttr, hS, e0] <;> rfl))))

    all_goals (show _ = _; rfl)
theorem Meet_good (h0 : SortKC0 Tryz.prog 92) (a b : List Arc) (ha : checkL a = 0) (hb : checkL b = 0) : OKv cx 24 [lArc a, lArc b] (.tup [lArc (arcsF (meetF (spansS a) (spansS b))), ai 0]) := by
  obtain ⟨la, va⟩ := checkL_zero ha
  obtain ⟨lb, vb⟩ := checkL_zero hb
  obtain ⟨a1, a2, _⟩ := spans_spec va
  obtain ⟨b1, b2, _⟩ := spans_spec vb
  have l1 := inC_len a1 a2
  have l2 := inC_len b1 b2
  obtain ⟨u1, um⟩ := meet_spec a1 b1
  have u2 : inC (meetF (spansS a) (spansS b)) := inC_of_mem u1 fun z hz => mem_inC a2 ((um z).1 hz).1
  have c1 := both_good h0 a b 46 _ ha hb (meet_ok _ _ a2 b2 a1.2 b1.2 (by omega) (by omega)) u1 u2
  refine OKat.of_body (rs := [4, 5]) Tryz.func24 rfl (by decide +kernel) rfl (by simp [Tryz.ntmps24]) ?_
  simp only [Tryz.ntmps24]
  repeat' first
    | apply jA | apply jB | apply jC | apply jI
    | ((apply jK kO; decide); (simp (disch := omega) only [push_cast, simprocAttr] <;> rfl))
    | ((apply jV kO; decide); (iterate 2 (simp (disch := omega) only [push_cast, simprocAttr] <;> rfl)); (with_reducible exact c1); try first | rfl | (simp (disch := omega) only [push_cast, simprocAttr] <;> rfl))
    | ((apply W.ret2); (iterate 2 (try (simp (disch := omega) only [push_cast, simprocAttr] <;> rfl))))

  all_goals (show _ = _; rfl)
end Go.Proofs.Ds

namespace Go.Proofs.Ds
open Go Go.Pg Go.Proofs Go.Proofs.Yt Go.RowKit
theorem sort130_0 : SortKC0 Tryz.prog 92 := fun p cap fv w => AnyF.slices_SortFunc_none Tryz.sortF p cap fv w
end Go.Proofs.Ds

set_option maxRecDepth 100000
namespace Go.Proofs.Ds
open Go Go.Pg Go.Proofs Go.Proofs.Yt Go.ChangeShapes Go.WideShapes Go.RowKit
section
variable {H : Type} {enc : TypeId × Value → H} {W : World} {spare : Nat → Bool} {held : Bool}
abbrev Old (W : World) : Nat → Prop := fun b => b < W.heap.size
def Reads (enc : TypeId × Value → H) (W : World) (spare : Nat → Bool) (held : Bool) (t : TypeId) {α : Type} (e : α → List AV) (good : α → Prop) : Prop :=
  ∀ fuel cs x, DataW.trod enc Tryz.prog W 0 spare held fuel t cs = some x → ∃ a, good a ∧ cs.length = (e a).length ∧ (∀ c ∈ e a, c.cell = true) ∧ RepL (pureSg (Old W)) W (e a) (fun i => cs[i]?)
theorem Reads.int {t : TypeId} {k : IntKind} (ht : Tryz.prog.underlying t = some (.int k)) : Reads enc W spare held t (fun n : Int => [AV.v (.int k n)]) (fun n => (Lit.int k n).wf = true) := by
  intro fuel cs x h
  obtain ⟨n, rfl, _, hw⟩ := DataW.trod_int ht h
  exact ⟨n, hw, rfl, by simp [AV.cell, Value.oneCell'], by simp [RepL, Rep]⟩
theorem Reads.bool {t : TypeId} (ht : Tryz.prog.underlying t = some .bool) : Reads enc W spare held t (fun b : Bool => [AV.v (.bool b)]) (fun _ => True) := by
  intro fuel cs x h
  obtain ⟨n, rfl, _⟩ := DataW.trod_bool ht h
  exact ⟨n, trivial, rfl, by simp [AV.cell, Value.oneCell'], by simp [RepL, Rep]⟩
theorem Reads.slice {t e : TypeId} {α : Type} {f : α → List AV} {good : α → Prop} {k : Nat} (ht : Tryz.prog.underlying t = some (.slice e)) (hc : Tryz.prog.cellsOf e = k) (hk : 0 < k) (hlen : ∀ a, (f a).length = k)
    (hR : Reads enc W spare held e f good) : Reads enc W spare held t (fun l : List α => [AV.lst (l.map f)]) (fun l => (∀ a ∈ l, good a) ∧ l.length ≤ 9223372036854775807) := by
  intro fuel cs x h
  rcases DataW.trod_slice ht h with ⟨rfl, _⟩ | ⟨a, len, cap, elems, rest, n, _, rfl, _, _, hle, hcap, hlen', hel, _, _⟩
  · refine ⟨[], by simp, rfl, by simp [AV.cell], ?_⟩
    simp only [RepL, List.map_nil]
    refine ⟨⟨_, rfl, ?_⟩, trivial⟩
    simp only [Rep]
    exact ⟨none, 0, 0, rfl, by simp, by simp [maxLen], by simp, by simp⟩
  · rw [hc] at hel
    have key : ∀ i, i < len → ∃ b, good b ∧ (∀ c ∈ f b, c.cell = true) ∧ (∀ j, j < k → ∃ u, W.cell? ((a.add (i * k)).add j) = some u) ∧ RepL (pureSg (Old W)) W (f b) (fun j => W.cell? ((a.add (i * k)).add j)) := by
      intro i hi
      have := hel i hi
      obtain ⟨y, hy⟩ : ∃ y, elems[i]? = some y := ⟨_, List.getElem?_eq_getElem (by omega)⟩
      rw [hy] at this
      simp only [Option.bind_eq_some_iff] at this
      obtain ⟨cs', h1, h2⟩ := this
      obtain ⟨_, g2, g3⟩ := World.cells?_some h1
      obtain ⟨b, b1, b2, b3, b4⟩ := hR n cs' y h2
      refine ⟨b, b1, b3, fun j hj => ⟨cs'[j]'(by omega), by rw [g3 j hj, List.getElem?_eq_getElem (by omega)]⟩, RepL.congr (fun j hj => ?_) b4⟩
      rw [hlen] at hj
      exact (g3 j hj).symm
    let g : Fin len → α := fun i => Classical.choose (key i.1 i.2)
    have hg : ∀ i : Fin len, good (g i) ∧ (∀ c ∈ f (g i), c.cell = true) ∧ (∀ j, j < k → ∃ u, W.cell? ((a.add (i.1 * k)).add j) = some u) ∧ RepL (pureSg (Old W)) W (f (g i)) (fun j => W.cell? ((a.add (i.1 * k)).add j)) := fun i => Classical.choose_spec (key i.1 i.2)
    have hll : (List.ofFn g).length = len := by simp
    have hlm : ((List.ofFn g).map f).length = len := by simp
    refine ⟨List.ofFn g, ⟨fun b hb => ?_, by rw [hll]; simp only [maxLen] at hcap; omega⟩, rfl, by simp [AV.cell], ?_⟩
    · obtain ⟨i, hi⟩ := (List.mem_ofFn).1 hb
      rw [← hi]; exact (hg i).1
    · simp only [RepL]
      refine ⟨⟨_, rfl, ?_⟩, trivial⟩
      simp only [Rep]
      refine ⟨some a, cap, k, by rw [hlm], by rw [hlm]; exact hle, hcap, fun e he => ?_, fun hne => ?_⟩
      · obtain ⟨b, hb, rfl⟩ := List.mem_map.1 he
        obtain ⟨i, hi⟩ := (List.mem_ofFn).1 hb
        rw [← hi]; exact ⟨hlen _, (hg i).2.1⟩
      · have hpos : 0 < len := by
          rcases Nat.eq_zero_or_pos len with h0 | h0
          · exact absurd (List.eq_nil_of_length_eq_zero (by rw [hlm, h0])) hne
          · exact h0
        obtain ⟨u, hu⟩ := (hg ⟨0, hpos⟩).2.2.1 0 hk
        obtain ⟨b, o, spot⟩ := a
        have hspot : spot = none := by simpa [Addr.add] using World.cell?_spot hu
        subst hspot
        refine ⟨b, o, rfl, ?_, ?_⟩
        · show b < W.heap.size
          rcases Nat.lt_or_ge b W.heap.size with hb | hb
          · exact hb
          · have : W.heap[b]? = none := Array.getElem?_eq_none hb
            simp [World.cell?, Addr.add, this] at hu
        · rw [repLL_iff]
          intro i hi
          rw [hlm] at hi
          have he : ((List.ofFn g).map f)[i]'(by rw [hlm]; exact hi) = f (g ⟨i, hi⟩) := by simp
          rw [he]
          refine RepL.congr (fun j _ => ?_) (hg ⟨i, hi⟩).2.2.2
          rw [Addr.add_lit, Addr.add_lit]
theorem Reads.field {ft : TypeId} {α : Type} {e : α → AV} {good : α → Prop} {n off i : Nat} {cs : List Value} {xs : List (DataW H × List MemPlace)}
    (hR : Reads enc W spare held ft (fun a => [e a]) good) (h : DataW.trod enc Tryz.prog W 0 spare held n ft ((cs.drop off).take (Tryz.prog.cellsOf ft)) = xs[i]?) (hi : i < xs.length) :
    ∃ a, good a ∧ (e a).cell = true ∧ ∃ u, cs[off]? = some u ∧ Rep (pureSg (Old W)) W (e a) u := by
  rw [List.getElem?_eq_getElem hi] at h
  obtain ⟨a, h1, h2, h3, h4⟩ := hR _ _ _ h
  refine ⟨a, h1, h3 _ (by simp), ?_⟩
  simp only [RepL] at h4
  obtain ⟨⟨u, hu, hr⟩, _⟩ := h4
  refine ⟨u, ?_, hr⟩
  rw [List.getElem?_take] at hu
  split at hu
  · simpa using hu
  · cases hu
theorem i3 : Reads enc W spare held 3 eInt (fun n => (Lit.int .i64 n).wf = true) := Reads.int Tryz.underlying3
theorem key_reads : Reads enc W spare held 64 eKey (fun _ => True) := by
  intro fuel cs x h
  obtain ⟨xs, n, _, _, hl, hn, hf⟩ := DataW.trod_struct Tryz.underlying64 h
  have hn' : xs.length = 3 := hn
  obtain ⟨a0, _, c0, u0, h0, r0⟩ := Reads.field (e := fun n : Int => ai n) i3 (hf 0 _ rfl) (by omega)
  obtain ⟨a1, _, c1, u1, h1, r1⟩ := Reads.field (e := fun n : Int => ai n) i3 (hf 1 _ rfl) (by omega)
  obtain ⟨a2, _, c2, u2, h2, r2⟩ := Reads.field (e := fun n : Int => ai n) i3 (hf 2 _ rfl) (by omega)
  refine ⟨⟨a0, a1, a2⟩, trivial, hl.trans (by kernel_rfl), by simp [AV.cell, Value.oneCell'], ?_⟩
  simp only [RepL]
  exact ⟨⟨u0, h0, r0⟩, ⟨u1, h1, r1⟩, ⟨u2, h2, r2⟩, trivial⟩
theorem ink_reads : Reads enc W spare held 38 eInk (fun _ => True) := by
  intro fuel cs x h
  obtain ⟨xs, n, _, _, hl, hn, hf⟩ := DataW.trod_struct Tryz.underlying38 h
  have hn' : xs.length = 3 := hn
  obtain ⟨a0, _, c0, u0, h0, r0⟩ := Reads.field (e := fun n : Int => ai n) i3 (hf 0 _ rfl) (by omega)
  obtain ⟨a1, _, c1, u1, h1, r1⟩ := Reads.field (e := fun n : Int => ai n) i3 (hf 1 _ rfl) (by omega)
  obtain ⟨a2, _, c2, u2, h2, r2⟩ := Reads.field (e := fun n : Int => ai n) i3 (hf 2 _ rfl) (by omega)
  refine ⟨⟨a0, a1, a2⟩, trivial, hl.trans (by kernel_rfl), by simp [AV.cell, Value.oneCell'], ?_⟩
  simp only [RepL]
  exact ⟨⟨u0, h0, r0⟩, ⟨u1, h1, r1⟩, ⟨u2, h2, r2⟩, trivial⟩
variable {r : Reach} {base : Nat} {v : Value} {d : DataW H} {ps : List MemPlace}
theorem arg_ink (hv : Value.okWide Tryz.prog W r base 38 v) (h : DataW.Trod enc Tryz.prog W 0 spare held 38 v d ps) : ∃ a : Ink, True ∧ Rep (pureSg (Old W)) W (.agg (eInk a)) v := by
  obtain ⟨arr, rfl, _⟩ := okWide_struct Tryz.underlying38 hv
  obtain ⟨fuel, hf⟩ := h
  obtain ⟨a, g, g1, g2, g3⟩ := ink_reads _ _ _ hf
  refine ⟨a, g, ?_⟩
  simp only [Rep]
  exact ⟨arr, rfl, by simpa [Value.cells] using g1, g2, by simpa [Value.cells] using g3⟩
theorem arg_one {t : TypeId} {α : Type} {e : α → AV} {good : α → Prop} (hR : Reads enc W spare held t (fun a => [e a]) good) (hv : v.cells = #[v]) (h : DataW.Trod enc Tryz.prog W 0 spare held t v d ps) : ∃ a, good a ∧ Rep (pureSg (Old W)) W (e a) v := by
  obtain ⟨fuel, hf⟩ := h
  rw [hv] at hf
  obtain ⟨a, g, g1, g2, g3⟩ := hR _ _ _ hf
  refine ⟨a, g, ?_⟩
  simp only [RepL] at g3
  obtain ⟨⟨u, hu, hr⟩, _⟩ := g3
  simp at hu
  subst hu; exact hr
theorem arg_keys (hv : Value.okWide Tryz.prog W r base 36 v) (h : DataW.Trod enc Tryz.prog W 0 spare held 36 v d ps) : ∃ l : List Key, l.length ≤ 9223372036854775807 ∧ Rep (pureSg (Old W)) W (.lst (l.map eKey)) v := by
  obtain ⟨a, len, cap, rfl⟩ := okWide_slice Tryz.underlying36 hv
  obtain ⟨l, g, h⟩ := arg_one (e := fun l : List Key => .lst (l.map eKey)) (Reads.slice Tryz.underlying36 (k := 3) (by kernel_rfl) (by decide) (fun _ => rfl) key_reads) rfl h
  exact ⟨l, g.2, h⟩
end
end Go.Proofs.Ds
