/-
  Contracts of functions, proved by going through their code. No conditions.
-/
import Derived.Test.YtkdiplkmcilkmaaDoorDay
set_option linter.unusedVariables false
set_option linter.unusedSimpArgs false
set_option maxHeartbeats 8000000
set_option maxRecDepth 10000
namespace Go.Proofs.Ds
open Go Go.Pg Go.Proofs
def ssW (a b F : Nat) : Nat → Nat
  | 0 => a &&& b
  | 1 => (a &&& b) ||| clearN (dropB a b) F
  | _ => seenW a b F
def witM (a b : Key) (i : Ink) : Mark := ⟨⟨0, 0⟩, a.track, (seenW a.pat.toNat b.pat.toNat i.faint.toNat : Nat), (dropB 4095 (seenW a.pat.toNat b.pat.toNat i.faint.toNat) : Nat)⟩
def confV (a b : Key) (i : Ink) : Bool := keyV a && keyV b && inkV i && decide (a.track = b.track)
def witB (a b : Key) (i : Ink) : Bool := allowI a.pat.toNat (seenW a.pat.toNat b.pat.toNat i.faint.toNat) (dropB 4095 (seenW a.pat.toNat b.pat.toNat i.faint.toNat)) i && allowI b.pat.toNat (seenW a.pat.toNat b.pat.toNat i.faint.toNat) (dropB 4095 (seenW a.pat.toNat b.pat.toNat i.faint.toNat)) i
theorem confV_iff {a b : Key} {i : Ink} : confV a b i = true ↔ keyV a = true ∧ keyV b = true ∧ inkV i = true ∧ a.track = b.track := by
  unfold confV
  simp only [Bool.and_eq_true, decide_eq_true_eq, and_assoc]
theorem Witness_bad (a b : Key) (i : Ink) (h : confV a b i = false) : OKv cx 59 [.agg (eKey a), .agg (eKey b), .agg (eInk i)] (.tup [.agg (eMark mark0), ab false]) := by
  have c1 := CheckKey_ok a
  have c2 := CheckKey_ok b
  have c3 := CheckInk_ok i
  cases h1 : keyV a with
  | false =>
    rw [h1] at c1
    rw [if_neg Bool.false_ne_true] at c1
    refine OKat.of_bodyM cx_ok (rs := [.cell 6 42, .tmp 7]) Tryd.func59 rfl (by decide +kernel) rfl (by simp [Tryd.ntmps59]) ?_
    simp only [Tryd.ntmps59]
    repeat' first
      | apply AW.seq | apply AW.region | apply AW.ret | apply AW.block | apply AW.skip | apply AW.exit | apply AW.scope | apply AW.label | apply AWL.nil
      | ((first | (apply W.step cx_ok; decide) | apply W.store cx_ok | (apply W.gS; rfl; decide) | apply AW.cond); (simp (disch := omega) only [push_cast, simprocAttr, natNe, List.mem_cons, List.not_mem_nil, TyD.isAgg, Nat.add_assoc, List.map_nil, List.length_nil, Bool.and_self, Bool.and_true, Bool.true_and, Bool.false_and, Bool.and_false, Bool.not_true, Bool.not_false, Bool.false_eq_true] <;> rfl); all_goals try ((with_reducible intro hI); try first | (cases hI; done) | (simp only [INTS, not_true_eq_false] at hI; try first | (exfalso; omega) | (have hT : True := hI; clear hT hI))))
      | ((apply W.callv cx_ok; decide); (iterate 2 (simp (disch := omega) only [push_cast, simprocAttr, natNe, List.mem_cons, List.not_mem_nil, TyD.isAgg, Nat.add_assoc, List.map_nil, List.length_nil, Bool.and_self, Bool.and_true, Bool.true_and, Bool.false_and, Bool.and_false, Bool.not_true, Bool.not_false, Bool.false_eq_true] <;> rfl)); (with_reducible first | exact c1 | exact c2 | exact c3); try first | rfl | (simp (disch := omega) only [push_cast, simprocAttr, natNe, List.mem_cons, List.not_mem_nil, TyD.isAgg, Nat.add_assoc, List.map_nil, List.length_nil, Bool.and_self, Bool.and_true, Bool.true_and, Bool.false_and, Bool.and_false, Bool.not_true, Bool.not_false, Bool.false_eq_true] <;> rfl))
      | ((first | apply W.retM | apply W.endM'); (iterate 2 (try (simp (disch := omega) only [push_cast, simprocAttr, natNe, List.mem_cons, List.not_mem_nil, TyD.isAgg, Nat.add_assoc, List.map_nil, List.length_nil, Bool.and_self, Bool.and_true, Bool.true_and, Bool.false_and, Bool.and_false, Bool.not_true, Bool.not_false, Bool.false_eq_true] <;> rfl))))

    all_goals (show _ = _; rfl)
  | true =>
  rw [h1] at c1
  rw [if_pos rfl] at c1
  cases h2 : keyV b with
  | false =>
    rw [h2] at c2
    rw [if_neg Bool.false_ne_true] at c2
    refine OKat.of_bodyM cx_ok (rs := [.cell 6 42, .tmp 7]) Tryd.func59 rfl (by decide +kernel) rfl (by simp [Tryd.ntmps59]) ?_
    simp only [Tryd.ntmps59]
    repeat' first
      | apply AW.seq | apply AW.region | apply AW.ret | apply AW.block | apply AW.skip | apply AW.exit | apply AW.scope | apply AW.label | apply AWL.nil
      | ((first | (apply W.step cx_ok; decide) | apply W.store cx_ok | (apply W.gS; rfl; decide) | apply AW.cond); (simp (disch := omega) only [push_cast, simprocAttr, natNe, List.mem_cons, List.not_mem_nil, TyD.isAgg, Nat.add_assoc, List.map_nil, List.length_nil, Bool.and_self, Bool.and_true, Bool.true_and, Bool.false_and, Bool.and_false, Bool.not_true, Bool.not_false, Bool.false_eq_true] <;> rfl); all_goals try ((with_reducible intro hI); try first | (cases hI; done) | (simp only [INTS, not_true_eq_false] at hI; try first | (exfalso; omega) | (have hT : True := hI; clear hT hI))))
      | ((apply W.callv cx_ok; decide); (iterate 2 (simp (disch := omega) only [push_cast, simprocAttr, natNe, List.mem_cons, List.not_mem_nil, TyD.isAgg, Nat.add_assoc, List.map_nil, List.length_nil, Bool.and_self, Bool.and_true, Bool.true_and, Bool.false_and, Bool.and_false, Bool.not_true, Bool.not_false, Bool.false_eq_true] <;> rfl)); (with_reducible first | exact c1 | exact c2 | exact c3); try first | rfl | (simp (disch := omega) only [push_cast, simprocAttr, natNe, List.mem_cons, List.not_mem_nil, TyD.isAgg, Nat.add_assoc, List.map_nil, List.length_nil, Bool.and_self, Bool.and_true, Bool.true_and, Bool.false_and, Bool.and_false, Bool.not_true, Bool.not_false, Bool.false_eq_true] <;> rfl))
      | ((first | apply W.retM | apply W.endM'); (iterate 2 (try (simp (disch := omega) only [push_cast, simprocAttr, natNe, List.mem_cons, List.not_mem_nil, TyD.isAgg, Nat.add_assoc, List.map_nil, List.length_nil, Bool.and_self, Bool.and_true, Bool.true_and, Bool.false_and, Bool.and_false, Bool.not_true, Bool.not_false, Bool.false_eq_true] <;> rfl))))

    all_goals (show _ = _; rfl)
  | true =>
  rw [h2] at c2
  rw [if_pos rfl] at c2
  cases h3 : inkV i with
  | false =>
    rw [h3] at c3
    rw [if_neg Bool.false_ne_true] at c3
    refine OKat.of_bodyM cx_ok (rs := [.cell 6 42, .tmp 7]) Tryd.func59 rfl (by decide +kernel) rfl (by simp [Tryd.ntmps59]) ?_
    simp only [Tryd.ntmps59]
    repeat' first
      | apply AW.seq | apply AW.region | apply AW.ret | apply AW.block | apply AW.skip | apply AW.exit | apply AW.scope | apply AW.label | apply AWL.nil
      | ((first | (apply W.step cx_ok; decide) | apply W.store cx_ok | (apply W.gS; rfl; decide) | apply AW.cond); (simp (disch := omega) only [push_cast, simprocAttr, natNe, List.mem_cons, List.not_mem_nil, TyD.isAgg, Nat.add_assoc, List.map_nil, List.length_nil, Bool.and_self, Bool.and_true, Bool.true_and, Bool.false_and, Bool.and_false, Bool.not_true, Bool.not_false, Bool.false_eq_true] <;> rfl); all_goals try ((with_reducible intro hI); try first | (cases hI; done) | (simp only [INTS, not_true_eq_false] at hI; try first | (exfalso; omega) | (have hT : True := hI; clear hT hI))))
      | ((apply W.callv cx_ok; decide); (iterate 2 (simp (disch := omega) only [push_cast, simprocAttr, natNe, List.mem_cons, List.not_mem_nil, TyD.isAgg, Nat.add_assoc, List.map_nil, List.length_nil, Bool.and_self, Bool.and_true, Bool.true_and, Bool.false_and, Bool.and_false, Bool.not_true, Bool.not_false, Bool.false_eq_true] <;> rfl)); (with_reducible first | exact c1 | exact c2 | exact c3); try first | rfl | (simp (disch := omega) only [push_cast, simprocAttr, natNe, List.mem_cons, List.not_mem_nil, TyD.isAgg, Nat.add_assoc, List.map_nil, List.length_nil, Bool.and_self, Bool.and_true, Bool.true_and, Bool.false_and, Bool.and_false, Bool.not_true, Bool.not_false, Bool.false_eq_true] <;> rfl))
      | ((first | apply W.retM | apply W.endM'); (iterate 2 (try (simp (disch := omega) only [push_cast, simprocAttr, natNe, List.mem_cons, List.not_mem_nil, TyD.isAgg, Nat.add_assoc, List.map_nil, List.length_nil, Bool.and_self, Bool.and_true, Bool.true_and, Bool.false_and, Bool.and_false, Bool.not_true, Bool.not_false, Bool.false_eq_true] <;> rfl))))

    all_goals (show _ = _; rfl)
  | true =>
  rw [h3] at c3
  rw [if_pos rfl] at c3
  by_cases g : a.track = b.track
  · rw [confV_iff.2 ⟨h1, h2, h3, g⟩] at h; cases h
  have x1 := eq_false g
  have y1 : (a.track == b.track) = false := by simpa using g
  refine OKat.of_bodyM cx_ok (rs := [.cell 6 42, .tmp 7]) Tryd.func59 rfl (by decide +kernel) rfl (by simp [Tryd.ntmps59]) ?_
  simp only [Tryd.ntmps59]
  repeat' first
    | apply AW.seq | apply AW.region | apply AW.ret | apply AW.block | apply AW.skip | apply AW.exit | apply AW.scope | apply AW.label | apply AWL.nil
    | ((first | (apply W.step cx_ok; decide) | apply W.store cx_ok | (apply W.gS; rfl; decide) | apply AW.cond); (simp (disch := omega) only [push_cast, simprocAttr, natNe, List.mem_cons, List.not_mem_nil, TyD.isAgg, Nat.add_assoc, List.map_nil, List.length_nil, Bool.and_self, Bool.and_true, Bool.true_and, Bool.false_and, Bool.and_false, Bool.not_true, Bool.not_false, Bool.false_eq_true, x1, y1] <;> rfl); all_goals try ((with_reducible intro hI); try first | (cases hI; done) | (simp only [INTS, not_true_eq_false] at hI; try first | (exfalso; omega) | (have hT : True := hI; clear hT hI))))
    | ((apply W.callv cx_ok; decide); (iterate 2 (simp (disch := omega) only [push_cast, simprocAttr, natNe, List.mem_cons, List.not_mem_nil, TyD.isAgg, Nat.add_assoc, List.map_nil, List.length_nil, Bool.and_self, Bool.and_true, Bool.true_and, Bool.false_and, Bool.and_false, Bool.not_true, Bool.not_false, Bool.false_eq_true, x1, y1] <;> rfl)); (with_reducible first | exact c1 | exact c2 | exact c3); try first | rfl | (simp (disch := omega) only [push_cast, simprocAttr, natNe, List.mem_cons, List.not_mem_nil, TyD.isAgg, Nat.add_assoc, List.map_nil, List.length_nil, Bool.and_self, Bool.and_true, Bool.true_and, Bool.false_and, Bool.and_false, Bool.not_true, Bool.not_false, Bool.false_eq_true, x1, y1] <;> rfl))
    | ((first | apply W.retM | apply W.endM'); (iterate 2 (try (simp (disch := omega) only [push_cast, simprocAttr, natNe, List.mem_cons, List.not_mem_nil, TyD.isAgg, Nat.add_assoc, List.map_nil, List.length_nil, Bool.and_self, Bool.and_true, Bool.true_and, Bool.false_and, Bool.and_false, Bool.not_true, Bool.not_false, Bool.false_eq_true, x1, y1] <;> rfl))))

  all_goals (show _ = _; rfl)
theorem clear0 : ∀ n, clearN 0 n = 0
  | 0 => rfl
  | n + 1 => by rw [clearN]; exact clear0 n
theorem Witness_good (a b : Key) (i : Ink) (h : confV a b i = true) (wm : Mark) (wb : Bool) (hw : (witB a b i = true ∧ wm = witM a b i ∧ wb = true) ∨ (witB a b i = false ∧ wm = mark0 ∧ wb = false)) : OKv cx 59 [.agg (eKey a), .agg (eKey b), .agg (eInk i)] (.tup [.agg (eMark wm), ab wb]) := by
  have c1 := CheckKey_ok a
  have c2 := CheckKey_ok b
  have c3 := CheckInk_ok i
  obtain ⟨h1, h2, h3, g⟩ := confV_iff.1 h
  rw [h1, if_pos rfl] at c1
  rw [h2, if_pos rfl] at c2
  rw [h3, if_pos rfl] at c3
  have x1 := eq_true g
  have y1 : (a.track == b.track) = true := by simpa using g
  obtain ⟨_, _, k3, k4⟩ := keyV_iff.1 h1
  obtain ⟨_, _, k5, k6⟩ := keyV_iff.1 h2
  obtain ⟨i1, i2, i3⟩ := inkV_iff.1 h3
  obtain ⟨A, hA⟩ : ∃ z, a.pat.toNat = z := ⟨_, rfl⟩
  obtain ⟨B, hB⟩ : ∃ z, b.pat.toNat = z := ⟨_, rfl⟩
  obtain ⟨F, hFF⟩ : ∃ z, i.faint.toNat = z := ⟨_, rfl⟩
  have e1 : (A : Int) = a.pat := by omega
  have e2 : (B : Int) = b.pat := by omega
  have e3 : i.faint = (F : Int) := by omega
  have hAl : A < 4096 := by omega
  have hBl : B < 4096 := by omega
  have a1 := andI (p := A) (q := B) (by omega) (by omega)
  have a2 := andNotI (p := A) (q := B) (by omega) (by omega)
  have a3 := andNotI (p := B) (q := A) (by omega) (by omega)
  rw [e1, e2] at a1 a2 a3
  have s0l := and_lt (q := B) hAl
  unfold witB witM at hw
  rw [hA, hB, hFF] at hw
  refine OKat.of_bodyM cx_ok (rs := [.cell 6 42, .tmp 7]) Tryd.func59 rfl (by decide +kernel) rfl (by simp [Tryd.ntmps59]) ?_
  simp only [Tryd.ntmps59]
  repeat' first
    | apply AW.seq | apply AW.region | apply AW.ret | apply AW.block | apply AW.skip | apply AW.exit | apply AW.scope | apply AW.label | apply AWL.nil
    | ((first | (apply W.step cx_ok; decide) | apply W.store cx_ok | (apply W.gS; rfl; decide) | apply AW.cond); (simp (disch := omega) only [push_cast, simprocAttr, natNe, List.mem_cons, List.not_mem_nil, TyD.isAgg, Nat.add_assoc, List.map_nil, List.length_nil, Bool.and_self, Bool.and_true, Bool.true_and, Bool.false_and, Bool.and_false, Bool.not_true, Bool.not_false, Bool.false_eq_true, a1, a2, a3, x1, y1, Int.zero_sub] <;> rfl); all_goals try ((with_reducible intro hI); try first | (cases hI; done) | (simp only [INTS, not_true_eq_false] at hI; try first | (exfalso; omega) | (have hT : True := hI; clear hT hI))))
    | ((apply W.callv cx_ok; decide); (iterate 2 (simp (disch := omega) only [push_cast, simprocAttr, natNe, List.mem_cons, List.not_mem_nil, TyD.isAgg, Nat.add_assoc, List.map_nil, List.length_nil, Bool.and_self, Bool.and_true, Bool.true_and, Bool.false_and, Bool.and_false, Bool.not_true, Bool.not_false, Bool.false_eq_true, a1, a2, a3, x1, y1, Int.zero_sub] <;> rfl)); (with_reducible first | exact c1 | exact c2 | exact c3); try first | rfl | (simp (disch := omega) only [push_cast, simprocAttr, natNe, List.mem_cons, List.not_mem_nil, TyD.isAgg, Nat.add_assoc, List.map_nil, List.length_nil, Bool.and_self, Bool.and_true, Bool.true_and, Bool.false_and, Bool.and_false, Bool.not_true, Bool.not_false, Bool.false_eq_true, a1, a2, a3, x1, y1, Int.zero_sub] <;> rfl))
    | ((first | apply W.retM | apply W.endM'); (iterate 2 (try (simp (disch := omega) only [push_cast, simprocAttr, natNe, List.mem_cons, List.not_mem_nil, TyD.isAgg, Nat.add_assoc, List.map_nil, List.length_nil, Bool.and_self, Bool.and_true, Bool.true_and, Bool.false_and, Bool.and_false, Bool.not_true, Bool.not_false, Bool.false_eq_true, a1, a2, a3, x1, y1, Int.zero_sub] <;> rfl))))

  refine AW.loop (fun n s => ∃ (k : Nat), n = 2 - k ∧ (k ≤ 2) ∧ 4 ≤ s.nx ∧ s.tm 3 = .ptr 0 0 0 1 ∧ s.tm 4 = .ptr 1 0 0 1 ∧ s.tm 5 = .ptr 2 0 0 1 ∧ s.tm 6 = .ptr 3 0 0 1 ∧ s.tm 8 = ai ((ssW A B F k : Nat) : Int) ∧ s.tm 50 = .agg [ai ((dropB A B : Nat) : Int), ai ((dropB B A : Nat) : Int)] ∧ s.tm 51 = ai k ∧ Pg.rowAt s.H (0) = some ({ k := 3, es := [eKey a], ty := 44 }) ∧ Pg.rowAt s.H (1) = some ({ k := 3, es := [eKey b], ty := 44 }) ∧ Pg.rowAt s.H (2) = some ({ k := 3, es := [eInk i], ty := 48 }) ∧ Pg.rowAt s.H (3) = some ({ k := 5, es := [eMark mark0], ty := 42 })) (2) ⟨0, rfl, (by omega), ?_, ?_, ?_, ?_, ?_, ?_, ?_, ?_, ?_, ?_, ?_, ?_⟩ ?_
  iterate 12 (first | (simp (disch := omega) only [push_cast, simprocAttr, natNe, List.mem_cons, List.not_mem_nil, TyD.isAgg, Nat.add_assoc, List.map_nil, List.length_nil, Bool.and_self, Bool.and_true, Bool.true_and, Bool.false_and, Bool.and_false, Bool.not_true, Bool.not_false, Bool.false_eq_true, a1, a2, a3, x1, y1, Int.zero_sub, ssW] <;> first | rfl | omega) | omega)
  rintro n1 s1 ⟨k1, hn1, hp01, hnl1, hS1⟩
  have hZ1 : (0 : Nat) ≠ s1.nx ∧ s1.nx ≠ (0 : Nat) ∧ (1 : Nat) ≠ s1.nx ∧ s1.nx ≠ (1 : Nat) ∧ (2 : Nat) ≠ s1.nx ∧ s1.nx ≠ (2 : Nat) ∧ (3 : Nat) ≠ s1.nx ∧ s1.nx ≠ (3 : Nat) := by omega
  rcases (show k1 = 0 ∨ k1 = 1 ∨ k1 = 2 by omega) with rfl | rfl | rfl
  · have e0 : ((0 : Nat) : Int) = 0 := rfl
    obtain ⟨SF, hSF⟩ : ∃ z, (A &&& B) ||| clearN (dropB A B) (F - 0) = z := ⟨_, rfl⟩
    have hSF2 : ssW A B F 1 = SF := by rw [← hSF]; rfl
    repeat' first
      | apply AW.seq | apply AW.region | apply AW.ret | apply AW.block | apply AW.skip | apply AW.exit | apply AW.scope | apply AW.label | apply AWL.nil
      | ((first | (apply W.step cx_ok; decide) | apply W.store cx_ok | (apply W.gS; rfl; decide) | apply AW.cond); (simp (disch := omega) only [push_cast, simprocAttr, hS1, hZ1, natNe, List.mem_cons, List.not_mem_nil, TyD.isAgg, Nat.add_assoc, List.map_nil, List.length_nil, Bool.and_self, Bool.and_true, Bool.true_and, Bool.false_and, Bool.and_false, Bool.not_true, Bool.not_false, Bool.false_eq_true, a1, a2, a3, x1, y1, Int.zero_sub, e0, Int.natCast_zero, Int.natCast_one, List.getD_cons_zero, List.getElem?_cons_zero, List.getElem?_cons_succ, List.getD_cons_succ, ssW] <;> rfl); all_goals try ((with_reducible intro hI); try first | (cases hI; done) | (simp only [INTS, not_true_eq_false] at hI; try first | (exfalso; omega) | (have hT : True := hI; clear hT hI))))
      | ((first | apply W.retM | apply W.endM'); (iterate 2 (try (simp (disch := omega) only [push_cast, simprocAttr, hS1, hZ1, natNe, List.mem_cons, List.not_mem_nil, TyD.isAgg, Nat.add_assoc, List.map_nil, List.length_nil, Bool.and_self, Bool.and_true, Bool.true_and, Bool.false_and, Bool.and_false, Bool.not_true, Bool.not_false, Bool.false_eq_true, a1, a2, a3, x1, y1, Int.zero_sub, e0, Int.natCast_zero, Int.natCast_one, List.getD_cons_zero, List.getElem?_cons_zero, List.getElem?_cons_succ, List.getD_cons_succ, ssW] <;> rfl))))

    refine AW.loop (fun n s => ∃ (q f s0 : Nat), n = q ∧ (s0 ||| clearN q (F - f) = SF) ∧ (q < 4096) ∧ (f ≤ F) ∧ (s0 < 4096) ∧ 4 ≤ s.nx ∧ s.tm 3 = .ptr 0 0 0 1 ∧ s.tm 4 = .ptr 1 0 0 1 ∧ s.tm 5 = .ptr 2 0 0 1 ∧ s.tm 6 = .ptr 3 0 0 1 ∧ s.tm 8 = ai ((s0 : Nat) : Int) ∧ s.tm 10 = ai ((q : Nat) : Int) ∧ s.tm 11 = ai ((f : Nat) : Int) ∧ s.tm 50 = .agg [ai ((dropB A B : Nat) : Int), ai ((dropB B A : Nat) : Int)] ∧ s.tm 51 = ai 0 ∧ Pg.rowAt s.H (0) = some ({ k := 3, es := [eKey a], ty := 44 }) ∧ Pg.rowAt s.H (1) = some ({ k := 3, es := [eKey b], ty := 44 }) ∧ Pg.rowAt s.H (2) = some ({ k := 3, es := [eInk i], ty := 48 }) ∧ Pg.rowAt s.H (3) = some ({ k := 5, es := [eMark mark0], ty := 42 })) ((dropB A B)) ⟨(dropB A B), 0, (A &&& B), rfl, hSF, (drop_lt (by omega)), (Nat.zero_le _), (by omega), ?_, ?_, ?_, ?_, ?_, ?_, ?_, ?_, ?_, ?_, ?_, ?_, ?_, ?_⟩ ?_
    iterate 14 (first | (simp (disch := omega) only [push_cast, simprocAttr, hS1, hZ1, natNe, List.mem_cons, List.not_mem_nil, TyD.isAgg, Nat.add_assoc, List.map_nil, List.length_nil, Bool.and_self, Bool.and_true, Bool.true_and, Bool.false_and, Bool.and_false, Bool.not_true, Bool.not_false, Bool.false_eq_true, a1, a2, a3, x1, y1, Int.zero_sub, e0, Int.natCast_zero, Int.natCast_one, List.getD_cons_zero, List.getElem?_cons_zero, List.getElem?_cons_succ, List.getD_cons_succ, ssW] <;> first | rfl | omega) | omega)
    rintro n2 s2 ⟨q2, f2, s02, hn2, hp02, hp12, hp22, hp32, hnl2, hS2⟩
    have hZ2 : (0 : Nat) ≠ s2.nx ∧ s2.nx ≠ (0 : Nat) ∧ (1 : Nat) ≠ s2.nx ∧ s2.nx ≠ (1 : Nat) ∧ (2 : Nat) ≠ s2.nx ∧ s2.nx ≠ (2 : Nat) ∧ (3 : Nat) ≠ s2.nx ∧ s2.nx ≠ (3 : Nat) := by omega
    by_cases hq : q2 = 0
    · subst hq
      rw [clear0, Nat.or_zero] at hp02
      subst hp02
      have z0 : (((0 : Nat) : Int) = 0) = True := eq_true rfl
      repeat' first
        | apply AW.seq | apply AW.region | apply AW.ret | apply AW.block | apply AW.skip | apply AW.exit | apply AW.scope | apply AW.label | apply AWL.nil
        | ((first | (apply W.step cx_ok; decide) | apply W.store cx_ok | (apply W.gS; rfl; decide) | apply AW.cond); (simp (disch := omega) only [push_cast, simprocAttr, hS2, hZ2, natNe, List.mem_cons, List.not_mem_nil, TyD.isAgg, Nat.add_assoc, List.map_nil, List.length_nil, Bool.and_self, Bool.and_true, Bool.true_and, Bool.false_and, Bool.and_false, Bool.not_true, Bool.not_false, Bool.false_eq_true, a1, a2, a3, x1, y1, Int.zero_sub, e0, Int.natCast_zero, Int.natCast_one, List.getD_cons_zero, List.getElem?_cons_zero, List.getElem?_cons_succ, List.getD_cons_succ] <;> rfl); all_goals try ((with_reducible intro hI); try first | (cases hI; done) | (simp only [INTS, not_true_eq_false] at hI; try first | (exfalso; omega) | (have hT : True := hI; clear hT hI))))
        | ((first | apply W.retM | apply W.endM'); (iterate 2 (try (simp (disch := omega) only [push_cast, simprocAttr, hS2, hZ2, natNe, List.mem_cons, List.not_mem_nil, TyD.isAgg, Nat.add_assoc, List.map_nil, List.length_nil, Bool.and_self, Bool.and_true, Bool.true_and, Bool.false_and, Bool.and_false, Bool.not_true, Bool.not_false, Bool.false_eq_true, a1, a2, a3, x1, y1, Int.zero_sub, e0, Int.natCast_zero, Int.natCast_one, List.getD_cons_zero, List.getElem?_cons_zero, List.getElem?_cons_succ, List.getD_cons_succ] <;> rfl))))

      all_goals (refine ⟨1, ?_, 1, rfl, (by omega), ?_, ?_, ?_, ?_, ?_, ?_, ?_, ?_, ?_, ?_, ?_, ?_⟩; (omega); all_goals first | (simp (disch := omega) only [push_cast, simprocAttr, hS1, hZ1, hS2, hZ2, natNe, List.mem_cons, List.not_mem_nil, TyD.isAgg, Nat.add_assoc, List.map_nil, List.length_nil, Bool.and_self, Bool.and_true, Bool.true_and, Bool.false_and, Bool.and_false, Bool.not_true, Bool.not_false, Bool.false_eq_true, a1, a2, a3, x1, y1, Int.zero_sub, e0, Int.natCast_zero, Int.natCast_one, List.getD_cons_zero, List.getElem?_cons_zero, List.getElem?_cons_succ, List.getD_cons_succ, hSF2] <;> first | rfl | omega) | omega)
    · have lf := low_facts hp12
      have z1 : ((q2 : Int) = 0) = False := eq_false (by omega)
      have z2 : ((q2 : Int) == 0) = false := by rw [beq_eq_false_iff_ne]; omega
      obtain ⟨lf1, lf2, lf3, lf4, _, lf5⟩ := lf
      have b1 : IntKind.wrap .i64 ((BitVec.ofInt (IntKind.bits .i64) (q2 : Int) &&& BitVec.ofInt (IntKind.bits .i64) (-(q2 : Int))).toNat : Int) = ((lowB q2 : Nat) : Int) := by
        rw [show ((BitVec.ofInt (IntKind.bits .i64) (q2 : Int) &&& BitVec.ofInt (IntKind.bits .i64) (-(q2 : Int))).toNat = lowB q2) from lf1]
        exact wrapN (by omega)
      have b2 := andNotI (p := q2) (q := lowB q2) (by omega) (by omega)
      rw [lf2] at b2
      have b3 := orI (p := s02) (q := lowB q2) (by omega) (by omega)
      have lf6 := lf5 hq
      have lf7 : (s02 ||| lowB q2) < 4096 := or_lt hp32 lf4
      have gh : (s02 ||| lowB q2) ||| clearB q2 = s02 ||| q2 := by rw [Nat.or_assoc, lf3]
      by_cases hf : f2 < F
      · have z3 : ((f2 : Int) < i.faint) = True := eq_true (by omega)
        have hcl : s02 ||| clearN (clearB q2) (F - (f2 + 1)) = SF := by
          rw [← hp02, show F - f2 = (F - (f2 + 1)) + 1 by omega, clearN]
        repeat' first
          | apply AW.seq | apply AW.region | apply AW.ret | apply AW.block | apply AW.skip | apply AW.exit | apply AW.scope | apply AW.label | apply AWL.nil
          | ((first | (apply W.step cx_ok; decide) | apply W.store cx_ok | (apply W.gS; rfl; decide) | apply AW.cond); (simp (disch := omega) only [push_cast, simprocAttr, hS2, hZ2, natNe, List.mem_cons, List.not_mem_nil, TyD.isAgg, Nat.add_assoc, List.map_nil, List.length_nil, Bool.and_self, Bool.and_true, Bool.true_and, Bool.false_and, Bool.and_false, Bool.not_true, Bool.not_false, Bool.false_eq_true, a1, a2, a3, x1, y1, Int.zero_sub, e0, Int.natCast_zero, Int.natCast_one, List.getD_cons_zero, List.getElem?_cons_zero, List.getElem?_cons_succ, List.getD_cons_succ, z1, z2, z3, b1, b2] <;> rfl); all_goals try ((with_reducible intro hI); try first | (cases hI; done) | (simp only [INTS, not_true_eq_false] at hI; try first | (exfalso; omega) | (have hT : True := hI; clear hT hI))))
          | ((first | apply W.retM | apply W.endM'); (iterate 2 (try (simp (disch := omega) only [push_cast, simprocAttr, hS2, hZ2, natNe, List.mem_cons, List.not_mem_nil, TyD.isAgg, Nat.add_assoc, List.map_nil, List.length_nil, Bool.and_self, Bool.and_true, Bool.true_and, Bool.false_and, Bool.and_false, Bool.not_true, Bool.not_false, Bool.false_eq_true, a1, a2, a3, x1, y1, Int.zero_sub, e0, Int.natCast_zero, Int.natCast_one, List.getD_cons_zero, List.getElem?_cons_zero, List.getElem?_cons_succ, List.getD_cons_succ, z1, z2, z3, b1, b2] <;> rfl))))

        all_goals (refine ⟨(clearB q2), ?_, (clearB q2), (f2 + 1), s02, rfl, hcl, (by omega), (by omega), (by omega), ?_, ?_, ?_, ?_, ?_, ?_, ?_, ?_, ?_, ?_, ?_, ?_, ?_, ?_⟩; (omega); all_goals first | (simp (disch := omega) only [push_cast, simprocAttr, hS2, hZ2, natNe, List.mem_cons, List.not_mem_nil, TyD.isAgg, Nat.add_assoc, List.map_nil, List.length_nil, Bool.and_self, Bool.and_true, Bool.true_and, Bool.false_and, Bool.and_false, Bool.not_true, Bool.not_false, Bool.false_eq_true, a1, a2, a3, x1, y1, Int.zero_sub, e0, Int.natCast_zero, Int.natCast_one, List.getD_cons_zero, List.getElem?_cons_zero, List.getElem?_cons_succ, List.getD_cons_succ, z1, z2, z3, b1, b2] <;> first | rfl | omega) | omega)
      · have z3 : ((f2 : Int) < i.faint) = False := eq_false (by omega)
        have hff : F - f2 = 0 := by omega
        have hcl : (s02 ||| lowB q2) ||| clearN (clearB q2) (F - f2) = SF := by
          rw [← hp02, hff, clearN, clearN, gh]
        repeat' first
          | apply AW.seq | apply AW.region | apply AW.ret | apply AW.block | apply AW.skip | apply AW.exit | apply AW.scope | apply AW.label | apply AWL.nil
          | ((first | (apply W.step cx_ok; decide) | apply W.store cx_ok | (apply W.gS; rfl; decide) | apply AW.cond); (simp (disch := omega) only [push_cast, simprocAttr, hS2, hZ2, natNe, List.mem_cons, List.not_mem_nil, TyD.isAgg, Nat.add_assoc, List.map_nil, List.length_nil, Bool.and_self, Bool.and_true, Bool.true_and, Bool.false_and, Bool.and_false, Bool.not_true, Bool.not_false, Bool.false_eq_true, a1, a2, a3, x1, y1, Int.zero_sub, e0, Int.natCast_zero, Int.natCast_one, List.getD_cons_zero, List.getElem?_cons_zero, List.getElem?_cons_succ, List.getD_cons_succ, z1, z2, z3, b1, b2, b3] <;> rfl); all_goals try ((with_reducible intro hI); try first | (cases hI; done) | (simp only [INTS, not_true_eq_false] at hI; try first | (exfalso; omega) | (have hT : True := hI; clear hT hI))))
          | ((first | apply W.retM | apply W.endM'); (iterate 2 (try (simp (disch := omega) only [push_cast, simprocAttr, hS2, hZ2, natNe, List.mem_cons, List.not_mem_nil, TyD.isAgg, Nat.add_assoc, List.map_nil, List.length_nil, Bool.and_self, Bool.and_true, Bool.true_and, Bool.false_and, Bool.and_false, Bool.not_true, Bool.not_false, Bool.false_eq_true, a1, a2, a3, x1, y1, Int.zero_sub, e0, Int.natCast_zero, Int.natCast_one, List.getD_cons_zero, List.getElem?_cons_zero, List.getElem?_cons_succ, List.getD_cons_succ, z1, z2, z3, b1, b2, b3] <;> rfl))))

        all_goals (refine ⟨(clearB q2), ?_, (clearB q2), f2, (s02 ||| lowB q2), rfl, hcl, (by omega), (by omega), lf7, ?_, ?_, ?_, ?_, ?_, ?_, ?_, ?_, ?_, ?_, ?_, ?_, ?_, ?_⟩; (omega); all_goals first | (simp (disch := omega) only [push_cast, simprocAttr, hS2, hZ2, natNe, List.mem_cons, List.not_mem_nil, TyD.isAgg, Nat.add_assoc, List.map_nil, List.length_nil, Bool.and_self, Bool.and_true, Bool.true_and, Bool.false_and, Bool.and_false, Bool.not_true, Bool.not_false, Bool.false_eq_true, a1, a2, a3, x1, y1, Int.zero_sub, e0, Int.natCast_zero, Int.natCast_one, List.getD_cons_zero, List.getElem?_cons_zero, List.getElem?_cons_succ, List.getD_cons_succ, z1, z2, z3, b1, b2, b3] <;> first | rfl | omega) | omega)
  · have e0 : ((1 : Nat) : Int) = 1 := rfl
    have s1l : ((A &&& B) ||| clearN (dropB A B) F) < 4096 := or_lt s0l (Nat.lt_of_le_of_lt (clearN_le _ _) (drop_lt hAl))
    obtain ⟨SF, hSF⟩ : ∃ z, ((A &&& B) ||| clearN (dropB A B) F) ||| clearN (dropB B A) (F - 0) = z := ⟨_, rfl⟩
    have hSF2 : ssW A B F 2 = SF := by rw [← hSF]; rfl
    repeat' first
      | apply AW.seq | apply AW.region | apply AW.ret | apply AW.block | apply AW.skip | apply AW.exit | apply AW.scope | apply AW.label | apply AWL.nil
      | ((first | (apply W.step cx_ok; decide) | apply W.store cx_ok | (apply W.gS; rfl; decide) | apply AW.cond); (simp (disch := omega) only [push_cast, simprocAttr, hS1, hZ1, natNe, List.mem_cons, List.not_mem_nil, TyD.isAgg, Nat.add_assoc, List.map_nil, List.length_nil, Bool.and_self, Bool.and_true, Bool.true_and, Bool.false_and, Bool.and_false, Bool.not_true, Bool.not_false, Bool.false_eq_true, a1, a2, a3, x1, y1, Int.zero_sub, e0, Int.natCast_zero, Int.natCast_one, List.getD_cons_zero, List.getElem?_cons_zero, List.getElem?_cons_succ, List.getD_cons_succ, ssW] <;> rfl); all_goals try ((with_reducible intro hI); try first | (cases hI; done) | (simp only [INTS, not_true_eq_false] at hI; try first | (exfalso; omega) | (have hT : True := hI; clear hT hI))))
      | ((first | apply W.retM | apply W.endM'); (iterate 2 (try (simp (disch := omega) only [push_cast, simprocAttr, hS1, hZ1, natNe, List.mem_cons, List.not_mem_nil, TyD.isAgg, Nat.add_assoc, List.map_nil, List.length_nil, Bool.and_self, Bool.and_true, Bool.true_and, Bool.false_and, Bool.and_false, Bool.not_true, Bool.not_false, Bool.false_eq_true, a1, a2, a3, x1, y1, Int.zero_sub, e0, Int.natCast_zero, Int.natCast_one, List.getD_cons_zero, List.getElem?_cons_zero, List.getElem?_cons_succ, List.getD_cons_succ, ssW] <;> rfl))))

    refine AW.loop (fun n s => ∃ (q f s0 : Nat), n = q ∧ (s0 ||| clearN q (F - f) = SF) ∧ (q < 4096) ∧ (f ≤ F) ∧ (s0 < 4096) ∧ 4 ≤ s.nx ∧ s.tm 3 = .ptr 0 0 0 1 ∧ s.tm 4 = .ptr 1 0 0 1 ∧ s.tm 5 = .ptr 2 0 0 1 ∧ s.tm 6 = .ptr 3 0 0 1 ∧ s.tm 8 = ai ((s0 : Nat) : Int) ∧ s.tm 10 = ai ((q : Nat) : Int) ∧ s.tm 11 = ai ((f : Nat) : Int) ∧ s.tm 50 = .agg [ai ((dropB A B : Nat) : Int), ai ((dropB B A : Nat) : Int)] ∧ s.tm 51 = ai 1 ∧ Pg.rowAt s.H (0) = some ({ k := 3, es := [eKey a], ty := 44 }) ∧ Pg.rowAt s.H (1) = some ({ k := 3, es := [eKey b], ty := 44 }) ∧ Pg.rowAt s.H (2) = some ({ k := 3, es := [eInk i], ty := 48 }) ∧ Pg.rowAt s.H (3) = some ({ k := 5, es := [eMark mark0], ty := 42 })) ((dropB B A)) ⟨(dropB B A), 0, ((A &&& B) ||| clearN (dropB A B) F), rfl, hSF, (drop_lt (by omega)), (Nat.zero_le _), (by omega), ?_, ?_, ?_, ?_, ?_, ?_, ?_, ?_, ?_, ?_, ?_, ?_, ?_, ?_⟩ ?_
    iterate 14 (first | (simp (disch := omega) only [push_cast, simprocAttr, hS1, hZ1, natNe, List.mem_cons, List.not_mem_nil, TyD.isAgg, Nat.add_assoc, List.map_nil, List.length_nil, Bool.and_self, Bool.and_true, Bool.true_and, Bool.false_and, Bool.and_false, Bool.not_true, Bool.not_false, Bool.false_eq_true, a1, a2, a3, x1, y1, Int.zero_sub, e0, Int.natCast_zero, Int.natCast_one, List.getD_cons_zero, List.getElem?_cons_zero, List.getElem?_cons_succ, List.getD_cons_succ, ssW] <;> first | rfl | omega) | omega)
    rintro n2 s2 ⟨q2, f2, s02, hn2, hp02, hp12, hp22, hp32, hnl2, hS2⟩
    have hZ2 : (0 : Nat) ≠ s2.nx ∧ s2.nx ≠ (0 : Nat) ∧ (1 : Nat) ≠ s2.nx ∧ s2.nx ≠ (1 : Nat) ∧ (2 : Nat) ≠ s2.nx ∧ s2.nx ≠ (2 : Nat) ∧ (3 : Nat) ≠ s2.nx ∧ s2.nx ≠ (3 : Nat) := by omega
    by_cases hq : q2 = 0
    · subst hq
      rw [clear0, Nat.or_zero] at hp02
      subst hp02
      have z0 : (((0 : Nat) : Int) = 0) = True := eq_true rfl
      repeat' first
        | apply AW.seq | apply AW.region | apply AW.ret | apply AW.block | apply AW.skip | apply AW.exit | apply AW.scope | apply AW.label | apply AWL.nil
        | ((first | (apply W.step cx_ok; decide) | apply W.store cx_ok | (apply W.gS; rfl; decide) | apply AW.cond); (simp (disch := omega) only [push_cast, simprocAttr, hS2, hZ2, natNe, List.mem_cons, List.not_mem_nil, TyD.isAgg, Nat.add_assoc, List.map_nil, List.length_nil, Bool.and_self, Bool.and_true, Bool.true_and, Bool.false_and, Bool.and_false, Bool.not_true, Bool.not_false, Bool.false_eq_true, a1, a2, a3, x1, y1, Int.zero_sub, e0, Int.natCast_zero, Int.natCast_one, List.getD_cons_zero, List.getElem?_cons_zero, List.getElem?_cons_succ, List.getD_cons_succ] <;> rfl); all_goals try ((with_reducible intro hI); try first | (cases hI; done) | (simp only [INTS, not_true_eq_false] at hI; try first | (exfalso; omega) | (have hT : True := hI; clear hT hI))))
        | ((first | apply W.retM | apply W.endM'); (iterate 2 (try (simp (disch := omega) only [push_cast, simprocAttr, hS2, hZ2, natNe, List.mem_cons, List.not_mem_nil, TyD.isAgg, Nat.add_assoc, List.map_nil, List.length_nil, Bool.and_self, Bool.and_true, Bool.true_and, Bool.false_and, Bool.and_false, Bool.not_true, Bool.not_false, Bool.false_eq_true, a1, a2, a3, x1, y1, Int.zero_sub, e0, Int.natCast_zero, Int.natCast_one, List.getD_cons_zero, List.getElem?_cons_zero, List.getElem?_cons_succ, List.getD_cons_succ] <;> rfl))))

      all_goals (refine ⟨0, ?_, 2, rfl, (by omega), ?_, ?_, ?_, ?_, ?_, ?_, ?_, ?_, ?_, ?_, ?_, ?_⟩; (omega); all_goals first | (simp (disch := omega) only [push_cast, simprocAttr, hS1, hZ1, hS2, hZ2, natNe, List.mem_cons, List.not_mem_nil, TyD.isAgg, Nat.add_assoc, List.map_nil, List.length_nil, Bool.and_self, Bool.and_true, Bool.true_and, Bool.false_and, Bool.and_false, Bool.not_true, Bool.not_false, Bool.false_eq_true, a1, a2, a3, x1, y1, Int.zero_sub, e0, Int.natCast_zero, Int.natCast_one, List.getD_cons_zero, List.getElem?_cons_zero, List.getElem?_cons_succ, List.getD_cons_succ, hSF2] <;> first | rfl | omega) | omega)
    · have lf := low_facts hp12
      have z1 : ((q2 : Int) = 0) = False := eq_false (by omega)
      have z2 : ((q2 : Int) == 0) = false := by rw [beq_eq_false_iff_ne]; omega
      obtain ⟨lf1, lf2, lf3, lf4, _, lf5⟩ := lf
      have b1 : IntKind.wrap .i64 ((BitVec.ofInt (IntKind.bits .i64) (q2 : Int) &&& BitVec.ofInt (IntKind.bits .i64) (-(q2 : Int))).toNat : Int) = ((lowB q2 : Nat) : Int) := by
        rw [show ((BitVec.ofInt (IntKind.bits .i64) (q2 : Int) &&& BitVec.ofInt (IntKind.bits .i64) (-(q2 : Int))).toNat = lowB q2) from lf1]
        exact wrapN (by omega)
      have b2 := andNotI (p := q2) (q := lowB q2) (by omega) (by omega)
      rw [lf2] at b2
      have b3 := orI (p := s02) (q := lowB q2) (by omega) (by omega)
      have lf6 := lf5 hq
      have lf7 : (s02 ||| lowB q2) < 4096 := or_lt hp32 lf4
      have gh : (s02 ||| lowB q2) ||| clearB q2 = s02 ||| q2 := by rw [Nat.or_assoc, lf3]
      by_cases hf : f2 < F
      · have z3 : ((f2 : Int) < i.faint) = True := eq_true (by omega)
        have hcl : s02 ||| clearN (clearB q2) (F - (f2 + 1)) = SF := by
          rw [← hp02, show F - f2 = (F - (f2 + 1)) + 1 by omega, clearN]
        repeat' first
          | apply AW.seq | apply AW.region | apply AW.ret | apply AW.block | apply AW.skip | apply AW.exit | apply AW.scope | apply AW.label | apply AWL.nil
          | ((first | (apply W.step cx_ok; decide) | apply W.store cx_ok | (apply W.gS; rfl; decide) | apply AW.cond); (simp (disch := omega) only [push_cast, simprocAttr, hS2, hZ2, natNe, List.mem_cons, List.not_mem_nil, TyD.isAgg, Nat.add_assoc, List.map_nil, List.length_nil, Bool.and_self, Bool.and_true, Bool.true_and, Bool.false_and, Bool.and_false, Bool.not_true, Bool.not_false, Bool.false_eq_true, a1, a2, a3, x1, y1, Int.zero_sub, e0, Int.natCast_zero, Int.natCast_one, List.getD_cons_zero, List.getElem?_cons_zero, List.getElem?_cons_succ, List.getD_cons_succ, z1, z2, z3, b1, b2] <;> rfl); all_goals try ((with_reducible intro hI); try first | (cases hI; done) | (simp only [INTS, not_true_eq_false] at hI; try first | (exfalso; omega) | (have hT : True := hI; clear hT hI))))
          | ((first | apply W.retM | apply W.endM'); (iterate 2 (try (simp (disch := omega) only [push_cast, simprocAttr, hS2, hZ2, natNe, List.mem_cons, List.not_mem_nil, TyD.isAgg, Nat.add_assoc, List.map_nil, List.length_nil, Bool.and_self, Bool.and_true, Bool.true_and, Bool.false_and, Bool.and_false, Bool.not_true, Bool.not_false, Bool.false_eq_true, a1, a2, a3, x1, y1, Int.zero_sub, e0, Int.natCast_zero, Int.natCast_one, List.getD_cons_zero, List.getElem?_cons_zero, List.getElem?_cons_succ, List.getD_cons_succ, z1, z2, z3, b1, b2] <;> rfl))))

        all_goals (refine ⟨(clearB q2), ?_, (clearB q2), (f2 + 1), s02, rfl, hcl, (by omega), (by omega), (by omega), ?_, ?_, ?_, ?_, ?_, ?_, ?_, ?_, ?_, ?_, ?_, ?_, ?_, ?_⟩; (omega); all_goals first | (simp (disch := omega) only [push_cast, simprocAttr, hS2, hZ2, natNe, List.mem_cons, List.not_mem_nil, TyD.isAgg, Nat.add_assoc, List.map_nil, List.length_nil, Bool.and_self, Bool.and_true, Bool.true_and, Bool.false_and, Bool.and_false, Bool.not_true, Bool.not_false, Bool.false_eq_true, a1, a2, a3, x1, y1, Int.zero_sub, e0, Int.natCast_zero, Int.natCast_one, List.getD_cons_zero, List.getElem?_cons_zero, List.getElem?_cons_succ, List.getD_cons_succ, z1, z2, z3, b1, b2] <;> first | rfl | omega) | omega)
      · have z3 : ((f2 : Int) < i.faint) = False := eq_false (by omega)
        have hff : F - f2 = 0 := by omega
        have hcl : (s02 ||| lowB q2) ||| clearN (clearB q2) (F - f2) = SF := by
          rw [← hp02, hff, clearN, clearN, gh]
        repeat' first
          | apply AW.seq | apply AW.region | apply AW.ret | apply AW.block | apply AW.skip | apply AW.exit | apply AW.scope | apply AW.label | apply AWL.nil
          | ((first | (apply W.step cx_ok; decide) | apply W.store cx_ok | (apply W.gS; rfl; decide) | apply AW.cond); (simp (disch := omega) only [push_cast, simprocAttr, hS2, hZ2, natNe, List.mem_cons, List.not_mem_nil, TyD.isAgg, Nat.add_assoc, List.map_nil, List.length_nil, Bool.and_self, Bool.and_true, Bool.true_and, Bool.false_and, Bool.and_false, Bool.not_true, Bool.not_false, Bool.false_eq_true, a1, a2, a3, x1, y1, Int.zero_sub, e0, Int.natCast_zero, Int.natCast_one, List.getD_cons_zero, List.getElem?_cons_zero, List.getElem?_cons_succ, List.getD_cons_succ, z1, z2, z3, b1, b2, b3] <;> rfl); all_goals try ((with_reducible intro hI); try first | (cases hI; done) | (simp only [INTS, not_true_eq_false] at hI; try first | (exfalso; omega) | (have hT : True := hI; clear hT hI))))
          | ((first | apply W.retM | apply W.endM'); (iterate 2 (try (simp (disch := omega) only [push_cast, simprocAttr, hS2, hZ2, natNe, List.mem_cons, List.not_mem_nil, TyD.isAgg, Nat.add_assoc, List.map_nil, List.length_nil, Bool.and_self, Bool.and_true, Bool.true_and, Bool.false_and, Bool.and_false, Bool.not_true, Bool.not_false, Bool.false_eq_true, a1, a2, a3, x1, y1, Int.zero_sub, e0, Int.natCast_zero, Int.natCast_one, List.getD_cons_zero, List.getElem?_cons_zero, List.getElem?_cons_succ, List.getD_cons_succ, z1, z2, z3, b1, b2, b3] <;> rfl))))

        all_goals (refine ⟨(clearB q2), ?_, (clearB q2), f2, (s02 ||| lowB q2), rfl, hcl, (by omega), (by omega), lf7, ?_, ?_, ?_, ?_, ?_, ?_, ?_, ?_, ?_, ?_, ?_, ?_, ?_, ?_⟩; (omega); all_goals first | (simp (disch := omega) only [push_cast, simprocAttr, hS2, hZ2, natNe, List.mem_cons, List.not_mem_nil, TyD.isAgg, Nat.add_assoc, List.map_nil, List.length_nil, Bool.and_self, Bool.and_true, Bool.true_and, Bool.false_and, Bool.and_false, Bool.not_true, Bool.not_false, Bool.false_eq_true, a1, a2, a3, x1, y1, Int.zero_sub, e0, Int.natCast_zero, Int.natCast_one, List.getD_cons_zero, List.getElem?_cons_zero, List.getElem?_cons_succ, List.getD_cons_succ, z1, z2, z3, b1, b2, b3] <;> first | rfl | omega) | omega)
  · have e0 : ((2 : Nat) : Int) = 2 := rfl
    obtain ⟨SW, hSW⟩ : ∃ z, seenW A B F = z := ⟨_, rfl⟩
    have hss : ssW A B F 2 = SW := by rw [← hSW]; rfl
    have hSl : SW < 4096 := by rw [← hSW]; exact seenW_lt hAl hBl
    rw [hSW] at hw
    have a5 := andNotI (p := 4095) (q := SW) (by omega) (by omega)
    rw [show ((4095 : Nat) : Int) = 4095 from rfl] at a5
    have hDl := drop_lt (p := 4095) (q := SW) (by omega)
    have c4 := allowed_ok A SW (dropB 4095 SW) i hAl hSl hDl
    have c5 := allowed_ok B SW (dropB 4095 SW) i hBl hSl hDl
    rw [e1] at c4
    rw [e2] at c5
    generalize dropB 4095 SW = DW0 at *
    cases hw1 : allowI A SW DW0 i with
    | false =>
      rw [hw1] at c4 hw
      rcases hw with ⟨hw, _⟩ | ⟨_, rfl, rfl⟩
      · simp at hw
      repeat' first
        | apply AW.seq | apply AW.region | apply AW.ret | apply AW.block | apply AW.skip | apply AW.exit | apply AW.scope | apply AW.label | apply AWL.nil
        | ((first | (apply W.step cx_ok; decide) | apply W.store cx_ok | (apply W.gS; rfl; decide) | apply AW.cond); (simp (disch := omega) only [push_cast, simprocAttr, hS1, hZ1, natNe, List.mem_cons, List.not_mem_nil, TyD.isAgg, Nat.add_assoc, List.map_nil, List.length_nil, Bool.and_self, Bool.and_true, Bool.true_and, Bool.false_and, Bool.and_false, Bool.not_true, Bool.not_false, Bool.false_eq_true, a1, a2, a3, x1, y1, Int.zero_sub, a5, hss, e0] <;> rfl); all_goals try ((with_reducible intro hI); try first | (cases hI; done) | (simp only [INTS, not_true_eq_false] at hI; try first | (exfalso; omega) | (have hT : True := hI; clear hT hI))))
        | ((apply W.callv cx_ok; decide); (iterate 2 (simp (disch := omega) only [push_cast, simprocAttr, hS1, hZ1, natNe, List.mem_cons, List.not_mem_nil, TyD.isAgg, Nat.add_assoc, List.map_nil, List.length_nil, Bool.and_self, Bool.and_true, Bool.true_and, Bool.false_and, Bool.and_false, Bool.not_true, Bool.not_false, Bool.false_eq_true, a1, a2, a3, x1, y1, Int.zero_sub, a5, hss, e0] <;> rfl)); (with_reducible first | exact c4 | exact c5); try first | rfl | (simp (disch := omega) only [push_cast, simprocAttr, hS1, hZ1, natNe, List.mem_cons, List.not_mem_nil, TyD.isAgg, Nat.add_assoc, List.map_nil, List.length_nil, Bool.and_self, Bool.and_true, Bool.true_and, Bool.false_and, Bool.and_false, Bool.not_true, Bool.not_false, Bool.false_eq_true, a1, a2, a3, x1, y1, Int.zero_sub, a5, hss, e0] <;> rfl))
        | ((first | apply W.retM | apply W.endM'); (iterate 2 (try (simp (disch := omega) only [push_cast, simprocAttr, hS1, hZ1, natNe, List.mem_cons, List.not_mem_nil, TyD.isAgg, Nat.add_assoc, List.map_nil, List.length_nil, Bool.and_self, Bool.and_true, Bool.true_and, Bool.false_and, Bool.and_false, Bool.not_true, Bool.not_false, Bool.false_eq_true, a1, a2, a3, x1, y1, Int.zero_sub, a5, hss, e0] <;> rfl))))

      all_goals (show _ = _; rfl)
    | true =>
      rw [hw1, Bool.true_and] at hw
      rw [hw1] at c4
      cases hw2 : allowI B SW DW0 i with
      | false =>
        rw [hw2] at c5 hw
        rcases hw with ⟨hw, _⟩ | ⟨_, rfl, rfl⟩
        · cases hw
        repeat' first
          | apply AW.seq | apply AW.region | apply AW.ret | apply AW.block | apply AW.skip | apply AW.exit | apply AW.scope | apply AW.label | apply AWL.nil
          | ((first | (apply W.step cx_ok; decide) | apply W.store cx_ok | (apply W.gS; rfl; decide) | apply AW.cond); (simp (disch := omega) only [push_cast, simprocAttr, hS1, hZ1, natNe, List.mem_cons, List.not_mem_nil, TyD.isAgg, Nat.add_assoc, List.map_nil, List.length_nil, Bool.and_self, Bool.and_true, Bool.true_and, Bool.false_and, Bool.and_false, Bool.not_true, Bool.not_false, Bool.false_eq_true, a1, a2, a3, x1, y1, Int.zero_sub, a5, hss, e0] <;> rfl); all_goals try ((with_reducible intro hI); try first | (cases hI; done) | (simp only [INTS, not_true_eq_false] at hI; try first | (exfalso; omega) | (have hT : True := hI; clear hT hI))))
          | ((apply W.callv cx_ok; decide); (iterate 2 (simp (disch := omega) only [push_cast, simprocAttr, hS1, hZ1, natNe, List.mem_cons, List.not_mem_nil, TyD.isAgg, Nat.add_assoc, List.map_nil, List.length_nil, Bool.and_self, Bool.and_true, Bool.true_and, Bool.false_and, Bool.and_false, Bool.not_true, Bool.not_false, Bool.false_eq_true, a1, a2, a3, x1, y1, Int.zero_sub, a5, hss, e0] <;> rfl)); (with_reducible first | exact c4 | exact c5); try first | rfl | (simp (disch := omega) only [push_cast, simprocAttr, hS1, hZ1, natNe, List.mem_cons, List.not_mem_nil, TyD.isAgg, Nat.add_assoc, List.map_nil, List.length_nil, Bool.and_self, Bool.and_true, Bool.true_and, Bool.false_and, Bool.and_false, Bool.not_true, Bool.not_false, Bool.false_eq_true, a1, a2, a3, x1, y1, Int.zero_sub, a5, hss, e0] <;> rfl))
          | ((first | apply W.retM | apply W.endM'); (iterate 2 (try (simp (disch := omega) only [push_cast, simprocAttr, hS1, hZ1, natNe, List.mem_cons, List.not_mem_nil, TyD.isAgg, Nat.add_assoc, List.map_nil, List.length_nil, Bool.and_self, Bool.and_true, Bool.true_and, Bool.false_and, Bool.and_false, Bool.not_true, Bool.not_false, Bool.false_eq_true, a1, a2, a3, x1, y1, Int.zero_sub, a5, hss, e0] <;> rfl))))

        all_goals (show _ = _; rfl)
      | true =>
        rw [hw2] at c5 hw
        rcases hw with ⟨_, rfl, rfl⟩ | ⟨hw, _⟩
        rotate_left
        · cases hw
        repeat' first
          | apply AW.seq | apply AW.region | apply AW.ret | apply AW.block | apply AW.skip | apply AW.exit | apply AW.scope | apply AW.label | apply AWL.nil
          | ((first | (apply W.step cx_ok; decide) | apply W.store cx_ok | (apply W.gS; rfl; decide) | apply AW.cond); (simp (disch := omega) only [push_cast, simprocAttr, hS1, hZ1, natNe, List.mem_cons, List.not_mem_nil, TyD.isAgg, Nat.add_assoc, List.map_nil, List.length_nil, Bool.and_self, Bool.and_true, Bool.true_and, Bool.false_and, Bool.and_false, Bool.not_true, Bool.not_false, Bool.false_eq_true, a1, a2, a3, x1, y1, Int.zero_sub, a5, hss, e0] <;> rfl); all_goals try ((with_reducible intro hI); try first | (cases hI; done) | (simp only [INTS, not_true_eq_false] at hI; try first | (exfalso; omega) | (have hT : True := hI; clear hT hI))))
          | ((apply W.callv cx_ok; decide); (iterate 2 (simp (disch := omega) only [push_cast, simprocAttr, hS1, hZ1, natNe, List.mem_cons, List.not_mem_nil, TyD.isAgg, Nat.add_assoc, List.map_nil, List.length_nil, Bool.and_self, Bool.and_true, Bool.true_and, Bool.false_and, Bool.and_false, Bool.not_true, Bool.not_false, Bool.false_eq_true, a1, a2, a3, x1, y1, Int.zero_sub, a5, hss, e0] <;> rfl)); (with_reducible first | exact c4 | exact c5); try first | rfl | (simp (disch := omega) only [push_cast, simprocAttr, hS1, hZ1, natNe, List.mem_cons, List.not_mem_nil, TyD.isAgg, Nat.add_assoc, List.map_nil, List.length_nil, Bool.and_self, Bool.and_true, Bool.true_and, Bool.false_and, Bool.and_false, Bool.not_true, Bool.not_false, Bool.false_eq_true, a1, a2, a3, x1, y1, Int.zero_sub, a5, hss, e0] <;> rfl))
          | ((first | apply W.retM | apply W.endM'); (iterate 2 (try (simp (disch := omega) only [push_cast, simprocAttr, hS1, hZ1, natNe, List.mem_cons, List.not_mem_nil, TyD.isAgg, Nat.add_assoc, List.map_nil, List.length_nil, Bool.and_self, Bool.and_true, Bool.true_and, Bool.false_and, Bool.and_false, Bool.not_true, Bool.not_false, Bool.false_eq_true, a1, a2, a3, x1, y1, Int.zero_sub, a5, hss, e0] <;> rfl))))

        all_goals (show _ = _; rfl)
end Go.Proofs.Ds
