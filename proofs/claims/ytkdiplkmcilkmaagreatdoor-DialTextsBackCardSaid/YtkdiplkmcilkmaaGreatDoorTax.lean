/-
  Contracts of functions, proved by going through their code. No conditions.
-/
import Derived.Shelf.Strconv.Itoa3
import Derived.Test.YtkdiplkmcilkmaaGreatDoorProg
import Derived.Lib.ItoaLen
import Derived.Lib.Builder
import Derived.Lib.UnsafeStr
import Derived.Test.YtkdiplkmcilkmaaGreatDoorTam
import Derived.Test.YtkdiplkmcilkmaaGreatDoorTaw
set_option linter.unusedVariables false
set_option linter.unusedSimpArgs false
set_option maxHeartbeats 8000000
set_option maxRecDepth 10000
namespace Go.Proofs.Dz
open Go Go.Pg Go.Proofs Go.Proofs.Ds
def strikesI (p mi di : Nat) (s : Int) (i : Ink) : Bool := decide ((cntF (p &&& mi) : Int) ≤ i.faint) && decide ((cntF (dropB di p) : Int) ≤ i.stray) && decide (-i.slip ≤ s) && decide (s ≤ i.slip)
theorem strikesI_iff {p mi di : Nat} {s : Int} {i : Ink} : strikesI p mi di s i = true ↔ (cntF (p &&& mi) : Int) ≤ i.faint ∧ (cntF (dropB di p) : Int) ≤ i.stray ∧ -i.slip ≤ s ∧ s ≤ i.slip := by
  unfold strikesI
  simp only [Bool.and_eq_true, decide_eq_true_eq, and_assoc]
def seenF (p mi di : Nat) : Nat := dropB p mi ||| di
def struckF (p : Nat) (t : Int) (x : Arc) (mi di : Nat) (s : Int) : Mark := ⟨⟨angF (angF x.from_ + s), x.len⟩, t, seenF p mi di, dropB 4095 (seenF p mi di)⟩
theorem seenF_lt {p mi di : Nat} (hp : p < 4096) (hD : di < 4096) : seenF p mi di < 4096 := Nat.or_lt_two_pow (n := 12) (drop_lt (q := mi) hp) hD
theorem struck_bad (p : Nat) (t : Int) (x : Arc) (mi di : Nat) (s : Int) (i : Ink) (hp : p < 4096) (hM : mi < 4096) (hD : di < 4096) (hs : 0 ≤ i.slip ∧ i.slip ≤ 600) (h : strikesI p mi di s i = false) :
    OKv cx 68 [ai p, ai t, .agg (eArc x), .agg (eBlow ⟨mi, di, s⟩), .agg (eInk i)] (.tup [.agg (eMark ⟨⟨0, 0⟩, 0, 0, 0⟩), ai 3]) := by
  have a1 := andI (p := p) (q := mi) (by omega) (by omega)
  have a2 := andNotI (p := di) (q := p) (by omega) (by omega)
  have l1 := and_lt (q := mi) hp
  have l2 := drop_lt (q := p) hD
  have c1 := count_ok (p &&& mi) (by omega)
  have c2 := most_ok (dropB di p) (by omega)
  have h' : ¬ _ := fun hh => absurd (strikesI_iff.2 hh) (by rw [h]; decide)
  by_cases b1 : (cntF (p &&& mi) : Int) > i.faint
  · have hT := eq_true b1
    refine OKat.of_bodyM cx_ok (rs := [.cell 10 26, .tmp 11]) Tryz.func68 rfl (by decide +kernel) rfl (by simp [Tryz.ntmps68]) ?_
    simp only [Tryz.ntmps68]
    repeat' first
      | apply AW.seq | apply AW.region | apply AW.ret | apply AW.block | apply AW.skip | apply AW.exit | apply AW.scope | apply AW.label | apply AWL.nil | apply D.nil
      | refine AW.draw (id := 1) cx_mixed [] [] [] 0 (by decide +kernel) ?_
      | refine W.draw cx_mixed (by decide +kernel) ?_
      | ((first | (apply W.step cx_ok; decide) | (apply D.step cx_ok; decide; decide) | apply W.store cx_ok | (apply W.gS; rfl; decide) | (apply D.gS; rfl; decide; decide) | apply AW.cond); (simp (disch := omega) only [push_cast, simprocAttr, natNe, List.mem_cons, List.not_mem_nil, TyD.isAgg, Nat.add_assoc, List.map_nil, List.length_nil, Bool.and_self, Bool.and_true, Bool.true_and, Bool.false_and, Bool.and_false, Bool.not_true, Bool.not_false, Bool.false_eq_true, a1, a2, hT] <;> rfl); all_goals try ((with_reducible intro hI); try first | (cases hI; done) | (simp only [INTS, not_true_eq_false] at hI; try first | (exfalso; omega) | (have hT : True := hI; clear hT hI))))
      | ((first | (apply D.stepm cx_ok; decide; decide)); (simp (disch := omega) only [push_cast, simprocAttr, natNe, List.mem_cons, List.not_mem_nil, TyD.isAgg, Nat.add_assoc, List.map_nil, List.length_nil, Bool.and_self, Bool.and_true, Bool.true_and, Bool.false_and, Bool.and_false, Bool.not_true, Bool.not_false, Bool.false_eq_true, a1, a2, hT] <;> rfl))
      | ((first | (apply W.callv cx_ok; decide) | (apply D.callv cx_ok; decide; decide)); (iterate 2 (simp (disch := omega) only [push_cast, simprocAttr, natNe, List.mem_cons, List.not_mem_nil, TyD.isAgg, Nat.add_assoc, List.map_nil, List.length_nil, Bool.and_self, Bool.and_true, Bool.true_and, Bool.false_and, Bool.and_false, Bool.not_true, Bool.not_false, Bool.false_eq_true, a1, a2, hT] <;> rfl)); (with_reducible first | exact c1 | exact c2); try first | rfl | (simp (disch := omega) only [push_cast, simprocAttr, natNe, List.mem_cons, List.not_mem_nil, TyD.isAgg, Nat.add_assoc, List.map_nil, List.length_nil, Bool.and_self, Bool.and_true, Bool.true_and, Bool.false_and, Bool.and_false, Bool.not_true, Bool.not_false, Bool.false_eq_true, a1, a2, hT] <;> rfl))
      | ((first | apply W.retM | apply W.endM'); (iterate 2 (try (simp (disch := omega) only [push_cast, simprocAttr, natNe, List.mem_cons, List.not_mem_nil, TyD.isAgg, Nat.add_assoc, List.map_nil, List.length_nil, Bool.and_self, Bool.and_true, Bool.true_and, Bool.false_and, Bool.and_false, Bool.not_true, Bool.not_false, Bool.false_eq_true, a1, a2, hT] <;> rfl))))

    all_goals (show _ = _; rfl)
  have hT1 := eq_false b1
  by_cases b2 : (cntF (dropB di p) : Int) > i.stray
  · have hT := eq_true b2
    refine OKat.of_bodyM cx_ok (rs := [.cell 10 26, .tmp 11]) Tryz.func68 rfl (by decide +kernel) rfl (by simp [Tryz.ntmps68]) ?_
    simp only [Tryz.ntmps68]
    repeat' first
      | apply AW.seq | apply AW.region | apply AW.ret | apply AW.block | apply AW.skip | apply AW.exit | apply AW.scope | apply AW.label | apply AWL.nil | apply D.nil
      | refine AW.draw (id := 1) cx_mixed [] [] [] 0 (by decide +kernel) ?_
      | refine W.draw cx_mixed (by decide +kernel) ?_
      | ((first | (apply W.step cx_ok; decide) | (apply D.step cx_ok; decide; decide) | apply W.store cx_ok | (apply W.gS; rfl; decide) | (apply D.gS; rfl; decide; decide) | apply AW.cond); (simp (disch := omega) only [push_cast, simprocAttr, natNe, List.mem_cons, List.not_mem_nil, TyD.isAgg, Nat.add_assoc, List.map_nil, List.length_nil, Bool.and_self, Bool.and_true, Bool.true_and, Bool.false_and, Bool.and_false, Bool.not_true, Bool.not_false, Bool.false_eq_true, a1, a2, hT1, hT] <;> rfl); all_goals try ((with_reducible intro hI); try first | (cases hI; done) | (simp only [INTS, not_true_eq_false] at hI; try first | (exfalso; omega) | (have hT : True := hI; clear hT hI))))
      | ((first | (apply D.stepm cx_ok; decide; decide)); (simp (disch := omega) only [push_cast, simprocAttr, natNe, List.mem_cons, List.not_mem_nil, TyD.isAgg, Nat.add_assoc, List.map_nil, List.length_nil, Bool.and_self, Bool.and_true, Bool.true_and, Bool.false_and, Bool.and_false, Bool.not_true, Bool.not_false, Bool.false_eq_true, a1, a2, hT1, hT] <;> rfl))
      | ((first | (apply W.callv cx_ok; decide) | (apply D.callv cx_ok; decide; decide)); (iterate 2 (simp (disch := omega) only [push_cast, simprocAttr, natNe, List.mem_cons, List.not_mem_nil, TyD.isAgg, Nat.add_assoc, List.map_nil, List.length_nil, Bool.and_self, Bool.and_true, Bool.true_and, Bool.false_and, Bool.and_false, Bool.not_true, Bool.not_false, Bool.false_eq_true, a1, a2, hT1, hT] <;> rfl)); (with_reducible first | exact c1 | exact c2); try first | rfl | (simp (disch := omega) only [push_cast, simprocAttr, natNe, List.mem_cons, List.not_mem_nil, TyD.isAgg, Nat.add_assoc, List.map_nil, List.length_nil, Bool.and_self, Bool.and_true, Bool.true_and, Bool.false_and, Bool.and_false, Bool.not_true, Bool.not_false, Bool.false_eq_true, a1, a2, hT1, hT] <;> rfl))
      | ((first | apply W.retM | apply W.endM'); (iterate 2 (try (simp (disch := omega) only [push_cast, simprocAttr, natNe, List.mem_cons, List.not_mem_nil, TyD.isAgg, Nat.add_assoc, List.map_nil, List.length_nil, Bool.and_self, Bool.and_true, Bool.true_and, Bool.false_and, Bool.and_false, Bool.not_true, Bool.not_false, Bool.false_eq_true, a1, a2, hT1, hT] <;> rfl))))

    all_goals (show _ = _; rfl)
  have hT2 := eq_false b2
  by_cases b3 : s < -i.slip
  · have hT := eq_true b3
    refine OKat.of_bodyM cx_ok (rs := [.cell 10 26, .tmp 11]) Tryz.func68 rfl (by decide +kernel) rfl (by simp [Tryz.ntmps68]) ?_
    simp only [Tryz.ntmps68]
    repeat' first
      | apply AW.seq | apply AW.region | apply AW.ret | apply AW.block | apply AW.skip | apply AW.exit | apply AW.scope | apply AW.label | apply AWL.nil | apply D.nil
      | refine AW.draw (id := 1) cx_mixed [] [] [] 0 (by decide +kernel) ?_
      | refine W.draw cx_mixed (by decide +kernel) ?_
      | ((first | (apply W.step cx_ok; decide) | (apply D.step cx_ok; decide; decide) | apply W.store cx_ok | (apply W.gS; rfl; decide) | (apply D.gS; rfl; decide; decide) | apply AW.cond); (simp (disch := omega) only [push_cast, simprocAttr, natNe, List.mem_cons, List.not_mem_nil, TyD.isAgg, Nat.add_assoc, List.map_nil, List.length_nil, Bool.and_self, Bool.and_true, Bool.true_and, Bool.false_and, Bool.and_false, Bool.not_true, Bool.not_false, Bool.false_eq_true, a1, a2, hT1, hT2, hT] <;> rfl); all_goals try ((with_reducible intro hI); try first | (cases hI; done) | (simp only [INTS, not_true_eq_false] at hI; try first | (exfalso; omega) | (have hT : True := hI; clear hT hI))))
      | ((first | (apply D.stepm cx_ok; decide; decide)); (simp (disch := omega) only [push_cast, simprocAttr, natNe, List.mem_cons, List.not_mem_nil, TyD.isAgg, Nat.add_assoc, List.map_nil, List.length_nil, Bool.and_self, Bool.and_true, Bool.true_and, Bool.false_and, Bool.and_false, Bool.not_true, Bool.not_false, Bool.false_eq_true, a1, a2, hT1, hT2, hT] <;> rfl))
      | ((first | (apply W.callv cx_ok; decide) | (apply D.callv cx_ok; decide; decide)); (iterate 2 (simp (disch := omega) only [push_cast, simprocAttr, natNe, List.mem_cons, List.not_mem_nil, TyD.isAgg, Nat.add_assoc, List.map_nil, List.length_nil, Bool.and_self, Bool.and_true, Bool.true_and, Bool.false_and, Bool.and_false, Bool.not_true, Bool.not_false, Bool.false_eq_true, a1, a2, hT1, hT2, hT] <;> rfl)); (with_reducible first | exact c1 | exact c2); try first | rfl | (simp (disch := omega) only [push_cast, simprocAttr, natNe, List.mem_cons, List.not_mem_nil, TyD.isAgg, Nat.add_assoc, List.map_nil, List.length_nil, Bool.and_self, Bool.and_true, Bool.true_and, Bool.false_and, Bool.and_false, Bool.not_true, Bool.not_false, Bool.false_eq_true, a1, a2, hT1, hT2, hT] <;> rfl))
      | ((first | apply W.retM | apply W.endM'); (iterate 2 (try (simp (disch := omega) only [push_cast, simprocAttr, natNe, List.mem_cons, List.not_mem_nil, TyD.isAgg, Nat.add_assoc, List.map_nil, List.length_nil, Bool.and_self, Bool.and_true, Bool.true_and, Bool.false_and, Bool.and_false, Bool.not_true, Bool.not_false, Bool.false_eq_true, a1, a2, hT1, hT2, hT] <;> rfl))))

    all_goals (show _ = _; rfl)
  have hT3 := eq_false b3
  have hT : (s > i.slip) = True := eq_true (by apply Classical.byContradiction; intro hh; exact h' ⟨by omega, by omega, by omega, by omega⟩)
  refine OKat.of_bodyM cx_ok (rs := [.cell 10 26, .tmp 11]) Tryz.func68 rfl (by decide +kernel) rfl (by simp [Tryz.ntmps68]) ?_
  simp only [Tryz.ntmps68]
  repeat' first
    | apply AW.seq | apply AW.region | apply AW.ret | apply AW.block | apply AW.skip | apply AW.exit | apply AW.scope | apply AW.label | apply AWL.nil | apply D.nil
    | refine AW.draw (id := 1) cx_mixed [] [] [] 0 (by decide +kernel) ?_
    | refine W.draw cx_mixed (by decide +kernel) ?_
    | ((first | (apply W.step cx_ok; decide) | (apply D.step cx_ok; decide; decide) | apply W.store cx_ok | (apply W.gS; rfl; decide) | (apply D.gS; rfl; decide; decide) | apply AW.cond); (simp (disch := omega) only [push_cast, simprocAttr, natNe, List.mem_cons, List.not_mem_nil, TyD.isAgg, Nat.add_assoc, List.map_nil, List.length_nil, Bool.and_self, Bool.and_true, Bool.true_and, Bool.false_and, Bool.and_false, Bool.not_true, Bool.not_false, Bool.false_eq_true, a1, a2, hT1, hT2, hT3, hT] <;> rfl); all_goals try ((with_reducible intro hI); try first | (cases hI; done) | (simp only [INTS, not_true_eq_false] at hI; try first | (exfalso; omega) | (have hT : True := hI; clear hT hI))))
    | ((first | (apply D.stepm cx_ok; decide; decide)); (simp (disch := omega) only [push_cast, simprocAttr, natNe, List.mem_cons, List.not_mem_nil, TyD.isAgg, Nat.add_assoc, List.map_nil, List.length_nil, Bool.and_self, Bool.and_true, Bool.true_and, Bool.false_and, Bool.and_false, Bool.not_true, Bool.not_false, Bool.false_eq_true, a1, a2, hT1, hT2, hT3, hT] <;> rfl))
    | ((first | (apply W.callv cx_ok; decide) | (apply D.callv cx_ok; decide; decide)); (iterate 2 (simp (disch := omega) only [push_cast, simprocAttr, natNe, List.mem_cons, List.not_mem_nil, TyD.isAgg, Nat.add_assoc, List.map_nil, List.length_nil, Bool.and_self, Bool.and_true, Bool.true_and, Bool.false_and, Bool.and_false, Bool.not_true, Bool.not_false, Bool.false_eq_true, a1, a2, hT1, hT2, hT3, hT] <;> rfl)); (with_reducible first | exact c1 | exact c2); try first | rfl | (simp (disch := omega) only [push_cast, simprocAttr, natNe, List.mem_cons, List.not_mem_nil, TyD.isAgg, Nat.add_assoc, List.map_nil, List.length_nil, Bool.and_self, Bool.and_true, Bool.true_and, Bool.false_and, Bool.and_false, Bool.not_true, Bool.not_false, Bool.false_eq_true, a1, a2, hT1, hT2, hT3, hT] <;> rfl))
    | ((first | apply W.retM | apply W.endM'); (iterate 2 (try (simp (disch := omega) only [push_cast, simprocAttr, natNe, List.mem_cons, List.not_mem_nil, TyD.isAgg, Nat.add_assoc, List.map_nil, List.length_nil, Bool.and_self, Bool.and_true, Bool.true_and, Bool.false_and, Bool.and_false, Bool.not_true, Bool.not_false, Bool.false_eq_true, a1, a2, hT1, hT2, hT3, hT] <;> rfl))))

  all_goals (show _ = _; rfl)
theorem struck_good (p : Nat) (t : Int) (x : Arc) (mi di : Nat) (s : Int) (i : Ink) (hp : p < 4096) (hM : mi < 4096) (hD : di < 4096) (hs : 0 ≤ i.slip ∧ i.slip ≤ 600) (h : strikesI p mi di s i = true) :
    OKv cx 68 [ai p, ai t, .agg (eArc x), .agg (eBlow ⟨mi, di, s⟩), .agg (eInk i)] (.tup [.agg (eMark (struckF p t x mi di s)), ai 0]) := by
  have a1 := andI (p := p) (q := mi) (by omega) (by omega)
  have a2 := andNotI (p := di) (q := p) (by omega) (by omega)
  have l1 := and_lt (q := mi) hp
  have l2 := drop_lt (q := p) hD
  have c1 := count_ok (p &&& mi) (by omega)
  have c2 := most_ok (dropB di p) (by omega)
  obtain ⟨b1, b2, b3, b4⟩ := strikesI_iff.1 h
  have hT1 : ((cntF (p &&& mi) : Int) > i.faint) = False := eq_false (by omega)
  have hT2 : ((cntF (dropB di p) : Int) > i.stray) = False := eq_false (by omega)
  have hT3 : (s < -i.slip) = False := eq_false (by omega)
  have hT4 : (s > i.slip) = False := eq_false (by omega)
  have l3 := drop_lt (q := mi) hp
  have a3 := andNotI (p := p) (q := mi) (by omega) (by omega)
  have a4 := orI (p := dropB p mi) (q := di) (by omega) (by omega)
  have l4 : (dropB p mi ||| di) < 4096 := seenF_lt (mi := mi) hp hD
  have a5 := andNotI (p := 4095) (q := dropB p mi ||| di) (by omega) (by omega)
  rw [show ((4095 : Nat) : Int) = 4095 from rfl] at a5
  have c3 := Angle_ok x.from_
  have g3 := angF_bd x.from_
  have c4 := Angle_ok (angF x.from_ + s)
  unfold struckF seenF
  refine OKat.of_bodyM cx_ok (rs := [.cell 10 26, .tmp 11]) Tryz.func68 rfl (by decide +kernel) rfl (by simp [Tryz.ntmps68]) ?_
  simp only [Tryz.ntmps68]
  repeat' first
    | apply AW.seq | apply AW.region | apply AW.ret | apply AW.block | apply AW.skip | apply AW.exit | apply AW.scope | apply AW.label | apply AWL.nil | apply D.nil
    | refine AW.draw (id := 1) cx_mixed [] [] [] 0 (by decide +kernel) ?_
    | refine AW.draw (id := 4) cx_mixed [8] [] [0] 0 (by decide +kernel) ?_
    | refine W.draw cx_mixed (by decide +kernel) ?_
    | ((first | (apply W.step cx_ok; decide) | (apply D.step cx_ok; decide; decide) | apply W.store cx_ok | (apply W.gS; rfl; decide) | (apply D.gS; rfl; decide; decide) | apply AW.cond); (simp (disch := omega) only [push_cast, simprocAttr, natNe, List.mem_cons, List.not_mem_nil, TyD.isAgg, Nat.add_assoc, List.map_nil, List.length_nil, Bool.and_self, Bool.and_true, Bool.true_and, Bool.false_and, Bool.and_false, Bool.not_true, Bool.not_false, Bool.false_eq_true, a1, a2, a3, a4, a5, hT1, hT2, hT3, hT4] <;> rfl); all_goals try ((with_reducible intro hI); try first | (cases hI; done) | (simp only [INTS, not_true_eq_false] at hI; try first | (exfalso; omega) | (have hT : True := hI; clear hT hI))))
    | ((first | (apply D.store cx_ok; decide) | (apply D.stept cx_ok; decide; decide) | (apply D.stepm cx_ok; decide; decide)); (simp (disch := omega) only [push_cast, simprocAttr, natNe, List.mem_cons, List.not_mem_nil, TyD.isAgg, Nat.add_assoc, List.map_nil, List.length_nil, Bool.and_self, Bool.and_true, Bool.true_and, Bool.false_and, Bool.and_false, Bool.not_true, Bool.not_false, Bool.false_eq_true, a1, a2, a3, a4, a5, hT1, hT2, hT3, hT4] <;> rfl); try first | exact .inl rfl | exact .inr (by simp))
    | ((apply D.alloct cx_ok; decide; decide); (simp (disch := omega) only [push_cast, simprocAttr, natNe, List.mem_cons, List.not_mem_nil, TyD.isAgg, Nat.add_assoc, List.map_nil, List.length_nil, Bool.and_self, Bool.and_true, Bool.true_and, Bool.false_and, Bool.and_false, Bool.not_true, Bool.not_false, Bool.false_eq_true, a1, a2, a3, a4, a5, hT1, hT2, hT3, hT4] <;> rfl); first | exact .inl rfl | exact .inr (by simp))
    | ((first | (apply W.callv cx_ok; decide) | (apply D.callv cx_ok; decide; decide) | (apply D.callvt cx_ok; decide; decide)); (iterate 2 (simp (disch := omega) only [push_cast, simprocAttr, natNe, List.mem_cons, List.not_mem_nil, TyD.isAgg, Nat.add_assoc, List.map_nil, List.length_nil, Bool.and_self, Bool.and_true, Bool.true_and, Bool.false_and, Bool.and_false, Bool.not_true, Bool.not_false, Bool.false_eq_true, a1, a2, a3, a4, a5, hT1, hT2, hT3, hT4] <;> rfl)); (with_reducible first | exact c1 | exact c2 | exact c3 | exact c4); try first | rfl | (simp (disch := omega) only [push_cast, simprocAttr, natNe, List.mem_cons, List.not_mem_nil, TyD.isAgg, Nat.add_assoc, List.map_nil, List.length_nil, Bool.and_self, Bool.and_true, Bool.true_and, Bool.false_and, Bool.and_false, Bool.not_true, Bool.not_false, Bool.false_eq_true, a1, a2, a3, a4, a5, hT1, hT2, hT3, hT4] <;> rfl))
    | ((first | apply W.retM | apply W.endM'); (iterate 2 (try (simp (disch := omega) only [push_cast, simprocAttr, natNe, List.mem_cons, List.not_mem_nil, TyD.isAgg, Nat.add_assoc, List.map_nil, List.length_nil, Bool.and_self, Bool.and_true, Bool.true_and, Bool.false_and, Bool.and_false, Bool.not_true, Bool.not_false, Bool.false_eq_true, a1, a2, a3, a4, a5, hT1, hT2, hT3, hT4] <;> rfl))))

  all_goals (show _ = _; rfl)
def mark0 : Mark := ⟨⟨0, 0⟩, 0, 0, 0⟩
theorem Strike_good (k : Key) (at_ : Int) (b : Blow) (i : Ink) (h1 : keyV k = true) (h2 : inkV i = true) (h3 : 0 ≤ b.miss ∧ b.miss ≤ 4095) (h4 : 0 ≤ b.dirt ∧ b.dirt ≤ 4095) (e : Int) (m : Mark)
    (he : (strikesI k.pat.toNat b.miss.toNat b.dirt.toNat b.shift i = true ∧ e = 0 ∧ m = struckF k.pat.toNat k.track ⟨at_, 0⟩ b.miss.toNat b.dirt.toNat b.shift) ∨ (strikesI k.pat.toNat b.miss.toNat b.dirt.toNat b.shift i = false ∧ e = 3 ∧ m = mark0)) :
    OKv cx 31 [.agg (eKey k), ai at_, .agg (eBlow b), .agg (eInk i)] (.tup [.agg (eMark m), ai e]) := by
  have c1 := CheckKey_ok k
  have c2 := CheckInk_ok i
  have c3 := pins_ok b.miss
  have c4 := pins_ok b.dirt
  rw [h1, if_pos rfl] at c1
  rw [h2, if_pos rfl] at c2
  rw [inF_iff.2 h3] at c3
  rw [inF_iff.2 h4] at c4
  obtain ⟨_, _, k3, k4⟩ := keyV_iff.1 h1
  obtain ⟨_, _, i3, i4⟩ := inkV_iff.1 h2
  have e1 : (k.pat.toNat : Int) = k.pat := Int.toNat_of_nonneg (by omega)
  have e2 : (b.miss.toNat : Int) = b.miss := Int.toNat_of_nonneg h3.1
  have e3 : (b.dirt.toNat : Int) = b.dirt := Int.toNat_of_nonneg h4.1
  have c5 : OKv cx 68 [ai k.pat, ai k.track, .agg (eArc ⟨at_, 0⟩), .agg (eBlow b), .agg (eInk i)] (.tup [.agg (eMark m), ai e]) := by
    obtain ⟨g, rfl, rfl⟩ | ⟨g, rfl, rfl⟩ := he
    · have := struck_good k.pat.toNat k.track ⟨at_, 0⟩ b.miss.toNat b.dirt.toNat b.shift i (by omega) (by omega) (by omega) ⟨i3, i4⟩ g
      rw [e1, e2, e3] at this
      exact this
    · have := struck_bad k.pat.toNat k.track ⟨at_, 0⟩ b.miss.toNat b.dirt.toNat b.shift i (by omega) (by omega) (by omega) ⟨i3, i4⟩ g
      rw [e1, e2, e3] at this
      exact this
  clear he
  refine OKat.of_bodyM cx_ok (rs := [.cell 8 26, .tmp 9]) Tryz.func31 rfl (by decide +kernel) rfl (by simp [Tryz.ntmps31]) ?_
  simp only [Tryz.ntmps31]
  repeat' first
    | apply AW.seq | apply AW.region | apply AW.ret | apply AW.block | apply AW.skip | apply AW.exit | apply AW.scope | apply AW.label | apply AWL.nil
    | ((first | (apply W.step cx_ok; decide) | apply W.store cx_ok | (apply W.gS; rfl; decide) | apply AW.cond); (simp (disch := omega) only [push_cast, simprocAttr, natNe, List.mem_cons, List.not_mem_nil, TyD.isAgg, Nat.add_assoc, List.map_nil, List.length_nil, Bool.and_self, Bool.and_true, Bool.true_and, Bool.false_and, Bool.and_false, Bool.not_true, Bool.not_false, Bool.false_eq_true] <;> rfl); all_goals try ((with_reducible intro hI); try first | (cases hI; done) | (simp only [INTS, not_true_eq_false] at hI; try first | (exfalso; omega) | (have hT : True := hI; clear hT hI))))
    | ((apply W.callv cx_ok; decide); (iterate 2 (simp (disch := omega) only [push_cast, simprocAttr, natNe, List.mem_cons, List.not_mem_nil, TyD.isAgg, Nat.add_assoc, List.map_nil, List.length_nil, Bool.and_self, Bool.and_true, Bool.true_and, Bool.false_and, Bool.and_false, Bool.not_true, Bool.not_false, Bool.false_eq_true] <;> rfl)); (with_reducible first | exact c1 | exact c2 | exact c3 | exact c4 | exact c5); try first | rfl | (simp (disch := omega) only [push_cast, simprocAttr, natNe, List.mem_cons, List.not_mem_nil, TyD.isAgg, Nat.add_assoc, List.map_nil, List.length_nil, Bool.and_self, Bool.and_true, Bool.true_and, Bool.false_and, Bool.and_false, Bool.not_true, Bool.not_false, Bool.false_eq_true] <;> rfl))
    | ((first | apply W.retM | apply W.endM'); (iterate 2 (try (simp (disch := omega) only [push_cast, simprocAttr, natNe, List.mem_cons, List.not_mem_nil, TyD.isAgg, Nat.add_assoc, List.map_nil, List.length_nil, Bool.and_self, Bool.and_true, Bool.true_and, Bool.false_and, Bool.and_false, Bool.not_true, Bool.not_false, Bool.false_eq_true] <;> rfl))))

  all_goals (show _ = _; rfl)
end Go.Proofs.Dz

namespace Go.Proofs
open Go.Shelf
def Tryz.laysM171_ren : Go.Shelf.Ren := ⟨fun | 171 => 50 | 243 => 75 | 246 => 96 | 283 => 110 | 284 => 111 | 285 => 112 | 286 => 113 | 129 => 130 | 317 => 129 | 318 => 131 | 319 => 132 | 320 => 133 | 337 => 150 | 338 => 151 | n => n, fun | 3 => 3 | 9 => 9 | 2 => 2 | 4 => 4 | 171 => 144 | 0 => 0 | 53 => 145 | 37 => 84 | 5 => 5 | 173 => 148 | 212 => 163 | 51 => 161 | 20 => 20 | 213 => 164 | 46 => 119 | 232 => 195 | 233 => 196 | n => n, fun | 17 => 0 | 18 => 6 | 19 => 7 | n => n⟩
theorem Tryz.laysM171 : Go.Proofs.LaysM.n171 Tryz.prog Tryz.laysM171_ren := {
  mixed := by kernel_rfl
  f129 := Tryz.func130.trans (congrArg some (by kernel_rfl))
  f171 := Tryz.func50.trans (congrArg some (by kernel_rfl))
  f243 := Tryz.func75.trans (congrArg some (by kernel_rfl))
  f246 := Tryz.func96.trans (congrArg some (by kernel_rfl))
  f283 := Tryz.func110.trans (congrArg some (by kernel_rfl))
  f284 := Tryz.func111.trans (congrArg some (by kernel_rfl))
  f285 := Tryz.func112.trans (congrArg some (by kernel_rfl))
  f286 := Tryz.func113.trans (congrArg some (by kernel_rfl))
  f317 := Tryz.func129.trans (congrArg some (by kernel_rfl))
  f318 := Tryz.func131.trans (congrArg some (by kernel_rfl))
  f319 := Tryz.func132.trans (congrArg some (by kernel_rfl))
  f320 := Tryz.func133.trans (congrArg some (by kernel_rfl))
  f337 := Tryz.func150.trans (congrArg some (by kernel_rfl))
  f338 := Tryz.func151.trans (congrArg some (by kernel_rfl))
  t0 := Tryz.underlying0
  a0 := Tryz.isAgg0
  z0 := Tryz.sizeOf0
  v0 := Tryz.zeroValue0
  t2 := Tryz.underlying2
  a2 := Tryz.isAgg2
  z2 := Tryz.sizeOf2
  v2 := Tryz.zeroValue2
  t3 := Tryz.underlying3
  a3 := Tryz.isAgg3
  z3 := Tryz.sizeOf3
  v3 := Tryz.zeroValue3
  t4 := Tryz.underlying4
  a4 := Tryz.isAgg4
  z4 := Tryz.sizeOf4
  v4 := Tryz.zeroValue4
  t5 := Tryz.underlying5
  a5 := Tryz.isAgg5
  z5 := Tryz.sizeOf5
  v5 := Tryz.zeroValue5
  t9 := Tryz.underlying9
  a9 := Tryz.isAgg9
  z9 := Tryz.sizeOf9
  v9 := Tryz.zeroValue9
  t20 := Tryz.underlying20
  a20 := Tryz.isAgg20
  z20 := Tryz.sizeOf20
  v20 := Tryz.zeroValue20
  t37 := Tryz.underlying84
  a37 := Tryz.isAgg84
  z37 := Tryz.sizeOf84
  v37 := Tryz.zeroValue84
  t46 := Tryz.underlying119
  a46 := Tryz.isAgg119
  z46 := Tryz.sizeOf119
  v46 := Tryz.zeroValue119
  t51 := Tryz.underlying161
  a51 := Tryz.isAgg161
  z51 := Tryz.sizeOf161
  v51 := Tryz.zeroValue161
  t53 := Tryz.underlying145
  a53 := Tryz.isAgg145
  z53 := Tryz.sizeOf145
  v53 := Tryz.zeroValue145
  t171 := Tryz.underlying144
  a171 := Tryz.isAgg144
  z171 := Tryz.sizeOf144
  v171 := Tryz.zeroValue144
  t173 := Tryz.underlying148
  a173 := Tryz.isAgg148
  z173 := Tryz.sizeOf148
  v173 := Tryz.zeroValue148
  t212 := Tryz.underlying163
  a212 := Tryz.isAgg163
  z212 := Tryz.sizeOf163
  v212 := Tryz.zeroValue163
  t213 := Tryz.underlying164
  a213 := Tryz.isAgg164
  z213 := Tryz.sizeOf164
  t232 := Tryz.underlying195
  a232 := Tryz.isAgg195
  z232 := Tryz.sizeOf195
  v232 := Tryz.zeroValue195
  t233 := Tryz.underlying196
  a233 := Tryz.isAgg196
  z233 := Tryz.sizeOf196
  v233 := Tryz.zeroValue196
  g17 := by kernel_rfl
  g18 := by kernel_rfl
  g19 := by kernel_rfl
  i0 := by kernel_rfl
  i2 := by kernel_rfl
  i3 := by kernel_rfl
  i4 := by kernel_rfl
  i5 := by kernel_rfl
  i9 := by kernel_rfl
  i20 := by kernel_rfl
  i37 := by kernel_rfl
  i46 := by kernel_rfl
  i51 := by kernel_rfl
  i53 := by kernel_rfl
  i171 := by kernel_rfl
  i173 := by kernel_rfl
  i212 := by kernel_rfl
  i232 := by kernel_rfl
  i233 := by kernel_rfl
  m17 := by kernel_rfl
  m18 := by kernel_rfl
  m19 := by kernel_rfl }
open Go.RowKit Go.Sort Go.Lib in
theorem Tryz.strconv_Itoa (n : Int) (h0 : -9223372036854775808 ≤ n) (h1 : n ≤ 9223372036854775807) (w : World) (htab : Lib.TabIs Tryz.prog w "internal/strconv.uint64pow10" .u64 Lib.pow10Tab) :
    Calls Tryz.prog 50 #[.int .i64 n] w fun e w' => e = .returned (.string ⟨(Lib.itoa n).toArray⟩) ∧ ∃ k os, w' = grow (w.drewN k) os := Any.strconv_Itoa Tryz.laysM171 n h0 h1 w htab
end Go.Proofs

namespace Go.Proofs.Dz
open Go Go.Pg Go.Proofs Go.Proofs.Ds Go.RowKit
def itoaB (n : Int) : ByteArray := ⟨(Lib.itoa n).toArray⟩
abbrev eStr (s : ByteArray) : List AV := [at_ s]
theorem vals1 {σ : Sg} {w : World} {a : AV} {vals : Array Value} (hs : vals.size = 1) (h : RepL σ w [a] (fun i => vals[i]?)) : ∃ u, vals = #[u] ∧ Rep σ w a u := by
  simp only [RepL] at h
  obtain ⟨⟨u, hu, hr⟩, _⟩ := h
  refine ⟨u, ?_, hr⟩
  apply Array.ext
  · simpa using hs
  · intro i h1 h2
    simp at h2
    subst h2
    rw [Array.getElem?_eq_getElem h1] at hu
    simpa using hu
theorem vals2 {σ : Sg} {w : World} {a b : AV} {vals : Array Value} (hs : vals.size = 2) (h : RepL σ w [a, b] (fun i => vals[i]?)) : ∃ u v, vals = #[u, v] ∧ Rep σ w a u ∧ Rep σ w b v := by
  simp only [RepL] at h
  obtain ⟨⟨u, hu, hr⟩, ⟨v, hv, hr2⟩, _⟩ := h
  refine ⟨u, v, ?_, hr, hr2⟩
  apply Array.ext
  · simpa using hs
  · intro i h1 h2
    simp at h2
    rcases (show i = 0 ∨ i = 1 by omega) with rfl | rfl
    · rw [Array.getElem?_eq_getElem h1] at hu
      simpa using hu
    · have : vals[1]? = some v := hv
      rw [Array.getElem?_eq_getElem h1] at this
      simpa using this
theorem below_growN (w : World) (k : Nat) (os : Array Obj) : Below w.heap.size w (Go.Sort.grow (w.drewN k) os) := by
  refine ⟨rfl, rfl, rfl, ?_, fun b hb => ?_⟩
  · simp [Go.Sort.grow, World.drewN]
  · simp [Go.Sort.grow, World.drewN, Array.getElem?_append_left hb]
theorem Itoa_ok (n : Int) (h0 : -9223372036854775808 ≤ n) (h1 : n ≤ 9223372036854775807) : OKv cx 50 [ai n] (at_ (itoaB n)) := by
  refine ⟨⟨_, Tryz.func50, by decide, by kernel_rfl⟩, fun w S vals hE hS hsz hrep => ?_⟩
  obtain ⟨u, rfl, hu⟩ := vals1 hsz hrep
  simp only [Rep] at hu
  subst hu
  refine (Tryz.strconv_Itoa n h0 h1 w hE).mono ?_
  rintro e w' ⟨rfl, k, os, rfl⟩
  exact ⟨below_growN w k os, _, _, rfl, rfl, rfl⟩
theorem itoaB_size (n : Int) (h0 : -9223372036854775808 ≤ n) (h1 : n ≤ 9223372036854775807) : (itoaB n).size ≤ 21 := by
  have := Lib.itoa_length_le n h0 h1
  unfold itoaB
  simpa [ByteArray.size] using this
def bRow (id G : Nat) (l : ByteArray) : Row := { k := 2, es := [[.ptr id 0 0 1, .ref G 0 l.size]], ty := 86 }
def gRow (l : ByteArray) : Row := { k := 1, es := strE l, ty := 5, lo := l.size }
abbrev freshB : Row := { k := 2, es := [[.v (.pointer none), .v (.slice none 0 0)]], ty := 86 }
theorem lies127 (c : Nat) (hc : 1 ≤ c) : liesAt Tryz.prog Tryz.prog.depth 86 c 0 86 1 = true := by
  obtain ⟨d, hd⟩ : ∃ d, Tryz.prog.depth = d + 1 := ⟨Tryz.prog.depth - 1, by kernel_rfl⟩
  have h1 : Tryz.prog.cellsOf 86 = 2 := by kernel_rfl
  have h2 : sameLayout Tryz.prog Tryz.prog.depth 86 86 = true := by kernel_rfl
  have hr : rowAt Tryz.prog (sameLayout Tryz.prog Tryz.prog.depth · 86) Tryz.prog.depth 86 c 0 1 = true := by
    rw [show rowAt Tryz.prog (sameLayout Tryz.prog Tryz.prog.depth · 86) Tryz.prog.depth = rowAt Tryz.prog (sameLayout Tryz.prog Tryz.prog.depth · 86) (d + 1) by rw [hd]]
    unfold rowAt
    simp only [h1, h2]
    simp [hc]
  rw [show liesAt Tryz.prog Tryz.prog.depth = liesAt Tryz.prog (d + 1) by rw [hd]]
  unfold liesAt
  rw [hr, Bool.true_or]
section
variable {N : Nat} {Q : Exit → St → Prop} {s : St} {ops : Array Oper} {rest : List Oper} {d : Nat} {ty : TypeId} {ps : String} {af : Array Edge}
theorem P.eqNil {x : Operand} (hN : d < N) (hx : s.ev x = .v (.pointer none)) (k : AWL cx N ops Q rest (s.put d (ab true) none)) :
    AWL cx N ops Q (⟨some d, .binOp .eql 83 x (.const (.pointer none)) 83, ty, ps, af, none⟩ :: rest) s := by
  refine AWL.pureOp rfl rfl hN (r := ab true) (fun S0 w0 a w σ hσ => ?_) k
  have hv := hσ.ev x
  rw [hx] at hv
  simp only [Rep] at hv
  refine ⟨.bool true, ?_, rfl⟩
  have := run_eql_pointer_nil (P := Tryz.prog) (w := w) 83 none (by kernel_rfl)
  simp only [execOp, hv, Sem.run_bind]
  exact congrArg (fun z => Result.andThen z fun a w => (pure (Next.value a) : Sem Next).run Tryz.prog w) this
theorem P.eqNil' {x : Operand} {id i j tag : Nat} (hN : d < N) (hx : s.ev x = .ptr id i j tag) (k : AWL cx N ops Q rest (s.put d (ab false) none)) :
    AWL cx N ops Q (⟨some d, .binOp .eql 83 x (.const (.pointer none)) 83, ty, ps, af, none⟩ :: rest) s := by
  refine AWL.pureOp rfl rfl hN (r := ab false) (fun S0 w0 a w σ hσ => ?_) k
  have hv := hσ.ev x
  rw [hx] at hv
  simp only [Rep] at hv
  obtain ⟨b, hv, _⟩ := hv
  refine ⟨.bool false, ?_, rfl⟩
  have := run_eql_pointer_nil (P := Tryz.prog) (w := w) 83 (some ⟨b, i * σ.k id + j, none⟩) (by kernel_rfl)
  simp only [execOp, hv, Sem.run_bind]
  exact congrArg (fun z => Result.andThen z fun a w => (pure (Next.value a) : Sem Next).run Tryz.prog w) this
theorem ptr_block {B0 : Nat} {S0 : Fr} {w : World} {H : Nat → Option AO} {σ : Sg} (hi : Inv B0 S0 w H σ) {id i j tag : Nat} {r : Row} (hr : Pg.rowAt H id = some r) (hlo : r.lo ≤ tag) {u : Value} (h : Rep σ w (.ptr id i j tag) u) :
    ∃ b arr, u = .pointer (some ⟨b, i * r.k + j, none⟩) ∧ σ.cur id = some b ∧ w.heap[b]? = some (.cells arr r.ty (0, 0)) ∧ arr.size = σ.cap b * r.k ∧ i < r.es.length ∧ r.es.length ≤ σ.cap b := by
  have hR := hi.row id r (rowAt_eq hr)
  simp only [Rep] at h
  obtain ⟨b, rfl, hown, h1, h2⟩ := h
  have hc : σ.cur id = some b := by
    rcases (hR.own b hown).1 with h | h
    · exact h
    · omega
  obtain ⟨a1, a2, a3, a4, arr, a5, a6⟩ := hR.cur b hc
  exact ⟨b, arr, by rw [hR.k], hc, a5, a6, by omega, a3⟩
theorem P.neqSame {x y : Operand} {id i j tag tag' : Nat} {r : Row} (hN : d < N) (hx : s.ev x = .ptr id i j tag) (hy : s.ev y = .ptr id i j tag') (hr : Pg.rowAt s.H id = some r) (h1 : r.lo ≤ tag) (h2 : r.lo ≤ tag')
    (k : AWL cx N ops Q rest (s.put d (ab false) none)) : AWL cx N ops Q (⟨some d, .binOp .neq 83 x y 83, ty, ps, af, none⟩ :: rest) s := by
  refine AWL.pureOp rfl rfl hN (r := ab false) (fun S0 w0 a w σ hσ => ?_) k
  have hv := hσ.ev x
  rw [hx] at hv
  have hv2 := hσ.ev y
  rw [hy] at hv2
  obtain ⟨b, arr, e1, c1, _⟩ := ptr_block hσ.inv hr h1 hv
  obtain ⟨b', arr', e1', c1', _⟩ := ptr_block hσ.inv hr h2 hv2
  rw [c1] at c1'; injection c1' with c1'; subst c1'
  obtain ⟨jj, hj, _⟩ := Option.map_eq_some_iff.1 (show (Tryz.prog.info? 86).map (·.size) = some 2 by kernel_rfl)
  refine ⟨.bool false, ?_, rfl⟩
  have := Lib.run_neq_ptr_same (P := Tryz.prog) w (tp := 83) (te := 86) ⟨b, i * r.k + j, none⟩ Tryz.underlying83 hj
  simp only [execOp, e1, e1', Sem.run_bind]
  exact congrArg (fun z => Result.andThen z fun a w => (pure (Next.value a) : Sem Next).run Tryz.prog w) this
theorem P.toUnsafe {x : Operand} {id tag : Nat} {r : Row} (hN : d < N) (hx : s.ev x = .ptr id 0 0 tag) (hr : Pg.rowAt s.H id = some r) (h1 : r.lo ≤ tag) (hk : r.k = 2) (ht : r.ty = 86)
    (k : AWL cx N ops Q rest (s.put d (.ptr id 0 0 tag) none)) : AWL cx N ops Q (⟨some d, .convert 83 132 x, ty, ps, af, none⟩ :: rest) s := by
  refine AWL.pureOp rfl rfl hN (r := .ptr id 0 0 tag) (fun S0 w0 a w σ hσ => ?_) k
  have hv := hσ.ev x
  rw [hx] at hv
  obtain ⟨b, arr, e1, c1, e2, e3, e4, e5⟩ := ptr_block hσ.inv hr h1 hv
  obtain ⟨jj, hj, hjs⟩ := Option.map_eq_some_iff.1 (show (Tryz.prog.info? 86).map (·.size) = some 2 by kernel_rfl)
  refine ⟨a.eval x, ?_, hv⟩
  have hsh : w.shape? b = some (86, arr.size) := by simp [World.shape?, e2, ht]
  have := Lib.run_to_unsafe (P := Tryz.prog) w (src := 83) (dst := 132) ⟨b, 0 * r.k + 0, none⟩ Tryz.underlying83 Tryz.underlying132 hj (by rw [hjs]; decide) hsh (by rw [e3, hk]; simp; omega)
  simp only [execOp, e1, Sem.run_bind]
  exact congrArg (fun z => Result.andThen z fun a w => (pure (Next.value a) : Sem Next).run Tryz.prog w) this
theorem P.fromUnsafe {x : Operand} {id tag : Nat} {r : Row} (hN : d < N) (hx : s.ev x = .ptr id 0 0 tag) (hr : Pg.rowAt s.H id = some r) (h1 : r.lo ≤ tag) (hk : r.k = 2) (ht : r.ty = 86)
    (k : AWL cx N ops Q rest (s.put d (.ptr id 0 0 tag) none)) : AWL cx N ops Q (⟨some d, .convert 132 83 x, ty, ps, af, none⟩ :: rest) s := by
  refine AWL.pureOp rfl rfl hN (r := .ptr id 0 0 tag) (fun S0 w0 a w σ hσ => ?_) k
  have hv := hσ.ev x
  rw [hx] at hv
  obtain ⟨b, arr, e1, c1, e2, e3, e4, e5⟩ := ptr_block hσ.inv hr h1 hv
  obtain ⟨jj, hj, hjs⟩ := Option.map_eq_some_iff.1 (show (Tryz.prog.info? 86).map (·.size) = some 2 by kernel_rfl)
  refine ⟨a.eval x, ?_, hv⟩
  have hsh : w.shape? b = some (86, arr.size) := by simp [World.shape?, e2, ht]
  have hc2 : Tryz.prog.cellsOf 86 = 2 := by kernel_rfl
  have := Lib.run_from_unsafe (P := Tryz.prog) w (src := 132) (dst := 83) (u := 86) ⟨b, 0, none⟩ Tryz.underlying132 Tryz.underlying83 hj hsh (by
    rw [hc2, e3, hk, Nat.mul_div_cancel _ (by decide)]
    exact lies127 _ (by omega))
  have hz : (0 * r.k + 0 : Nat) = 0 := by omega
  rw [hz] at e1
  simp only [execOp, e1, Sem.run_bind]
  exact congrArg (fun z => Result.andThen z fun a w => (pure (Next.value a) : Sem Next).run Tryz.prog w) this
theorem P.noEscape {x : Operand} {r : AV} {tys : Array TypeId} (hN : d < N) (hx : s.ev x = r) (k : AWL cx N ops Q rest (s.put d r none)) :
    AWL cx N ops Q (⟨some d, .call { callee := .value (.func 95), args := #[x], argTypes := tys }, ty, ps, af, none⟩ :: rest) s := by
  refine AWL.pureOp rfl rfl hN (r := r) (fun S0 w0 a w σ hσ => ⟨a.eval x, ?_, hx ▸ hσ.ev x⟩) k
  have hrun : (callFunc 95 #[a.eval x]).run Tryz.prog w = .ok (.value (a.eval x)) w := by
    rw [run_callFunc_extern Tryz.func95 (by kernel_rfl) (by kernel_rfl) (by kernel_rfl) (e := Extern.AbiNoEscape.same) (by kernel_rfl)]
    rw [Lib.run_noEscape]
    rfl
  have he : a.eval (.func 95) = .func (.func 95) #[] #[] := rfl
  simp only [execOp, resolve, he, Deferred.ofValue, Sem.run_bind, Sem.run_pure, Result.andThen_ok, invoke]
  simp only [List.map_toArray, List.map_cons, List.map_nil, Array.empty_append, Array.append_empty]
  exact hrun
end
end Go.Proofs.Dz
