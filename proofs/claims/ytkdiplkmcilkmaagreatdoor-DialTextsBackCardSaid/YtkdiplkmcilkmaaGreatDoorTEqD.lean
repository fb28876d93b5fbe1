/-
  Contracts of functions, proved by going through their code. No conditions.
-/
import Derived.Test.YtkdiplkmcilkmaaGreatDoorTEqC
import Derived.Test.YtkdiplkmcilkmaaGreatDoorTEtD
set_option linter.unusedVariables false
set_option linter.unusedSimpArgs false
set_option maxHeartbeats 8000000
set_option maxRecDepth 10000
namespace Go.Proofs.Dz
open Go Go.Pg Go.Proofs Go.Proofs.Ds Go.Tx
theorem RLine_ok (m : Mark) (hv : markV m = true) : OKv cx 53 [.agg (eMark m)] (at_ (lineB m)) := by
  obtain ⟨m1, m2, m3, m4, _⟩ := markV_iff.1 hv
  obtain ⟨v1, v2, v3, v4, v5⟩ := validA_iff.1 m1
  have i1 := RDecimal_ok m.track (by omega) (by omega)
  have i2 := RDecimal_ok m.arc.from_ (by omega) (by omega)
  have i3 := RDecimal_ok m.arc.len (by omega) (by omega)
  have hh := (headB_size m hv).2
  have e1 : (m.seen.toNat : Int) = m.seen := Int.toNat_of_nonneg m3.1
  have e2 : (m.blank.toNat : Int) = m.blank := Int.toNat_of_nonneg m4.1
  have s1 := itoaB_size m.track (by omega) (by omega)
  have s2 := itoaB_size m.arc.from_ (by omega) (by omega)
  have s3 := itoaB_size m.arc.len (by omega) (by omega)
  have hc1 : (itoaB m.track).size + (ByteArray.mk #[32]).size ≤ maxLen := by simp only [mk1_size]; unfold maxLen; omega
  have hc2 : (itoaB m.track ++ ByteArray.mk #[32]).size + (itoaB m.arc.from_).size ≤ maxLen := by simp only [ByteArray.size_append, mk1_size]; unfold maxLen; omega
  have hc3 : (itoaB m.track ++ ByteArray.mk #[32] ++ itoaB m.arc.from_).size + (ByteArray.mk #[32]).size ≤ maxLen := by simp only [ByteArray.size_append, mk1_size]; unfold maxLen; omega
  have hc4 : (itoaB m.track ++ ByteArray.mk #[32] ++ itoaB m.arc.from_ ++ ByteArray.mk #[32]).size + (itoaB m.arc.len).size ≤ maxLen := by simp only [ByteArray.size_append, mk1_size]; unfold maxLen; omega
  have hc5 : (itoaB m.track ++ ByteArray.mk #[32] ++ itoaB m.arc.from_ ++ ByteArray.mk #[32] ++ itoaB m.arc.len).size + (ByteArray.mk #[32]).size ≤ maxLen := by simp only [ByteArray.size_append, mk1_size]; unfold maxLen; omega
  refine OKat.of_body (rs := [2]) Tryz.func53 rfl (by decide +kernel) rfl (by simp [Tryz.ntmps53]) ?_
  simp only [Tryz.ntmps53]
  repeat' first
    | apply AW.seq | apply AW.region | apply AW.ret | apply AW.block | apply AW.skip | apply AW.exit | apply AW.scope | apply AW.label | apply AWL.nil | apply D.nil
    | refine W.draw cx_mixed (by decide +kernel) ?_
    | ((first | (apply W.step cx_ok; decide) | (apply D.step cx_ok; decide; decide) | apply AW.cond); (simp (disch := omega) only [push_cast, simprocAttr, natNe, List.mem_cons, List.not_mem_nil, TyD.isAgg, Nat.add_assoc, Bool.and_self, Bool.and_true, Bool.true_and, Bool.false_and, Bool.and_false, Bool.not_true, Bool.not_false, Bool.false_eq_true, hc1, hc2, hc3, hc4, hc5] <;> rfl); all_goals try ((with_reducible intro hI); try first | (cases hI; done) | (simp only [INTS, not_true_eq_false] at hI; try first | (exfalso; omega) | (have hT : True := hI; clear hT hI))))
    | ((first | (apply W.callv cx_ok; decide) | (apply D.callv cx_ok; decide; decide)); (iterate 2 (simp (disch := omega) only [push_cast, simprocAttr, natNe, List.mem_cons, List.not_mem_nil, TyD.isAgg, Nat.add_assoc, Bool.and_self, Bool.and_true, Bool.true_and, Bool.false_and, Bool.and_false, Bool.not_true, Bool.not_false, Bool.false_eq_true, hc1, hc2, hc3, hc4, hc5] <;> rfl)); (with_reducible first | exact i1 | exact i2 | exact i3); try first | rfl | (simp (disch := omega) only [push_cast, simprocAttr, natNe, List.mem_cons, List.not_mem_nil, TyD.isAgg, Nat.add_assoc, Bool.and_self, Bool.and_true, Bool.true_and, Bool.false_and, Bool.and_false, Bool.not_true, Bool.not_false, Bool.false_eq_true, hc1, hc2, hc3, hc4, hc5] <;> rfl))
    | ((first | apply W.ret1 | apply W.end1); (iterate 2 (try (simp (disch := omega) only [push_cast, simprocAttr, natNe, List.mem_cons, List.not_mem_nil, TyD.isAgg, Nat.add_assoc, Bool.and_self, Bool.and_true, Bool.true_and, Bool.false_and, Bool.and_false, Bool.not_true, Bool.not_false, Bool.false_eq_true, hc1, hc2, hc3, hc4, hc5] <;> rfl))))

  refine AW.loop (fun n s => ∃ (q : Nat) (r : ByteArray), n = 12 - q ∧ (q ≤ 12) ∧ (r = headB m ++ pinsB m q) ∧ 1 ≤ s.nx ∧ s.tm 1 = .ptr 0 0 0 1 ∧ s.tm 3 = at_ r ∧ s.tm 4 = ai q ∧ Pg.rowAt s.H (0) = some ({ k := 5, es := [eMark m], ty := 26 })) (12) ⟨0, headB m, rfl, (by omega), (by simp only [pinsB]; exact (app_empty _).symm), ?_, ?_, ?_, ?_, ?_⟩ ?_
  iterate 5 (first | (simp (disch := omega) only [push_cast, simprocAttr, natNe, List.mem_cons, List.not_mem_nil, TyD.isAgg, Nat.add_assoc, Bool.and_self, Bool.and_true, Bool.true_and, Bool.false_and, Bool.and_false, Bool.not_true, Bool.not_false, Bool.false_eq_true, hc1, hc2, hc3, hc4, hc5] <;> first | rfl | omega) | omega)
  rintro n1 s1 ⟨q1, r1, hn1, hp01, hp11, hnl1, hS1⟩
  have hZ1 : (0 : Nat) ≠ s1.nx ∧ s1.nx ≠ (0 : Nat) := by omega
  have hrs : r1.size ≤ 78 := by rw [hp11]; simp only [ByteArray.size_append, pinsB_size]; omega
  have hs35 : r1.size + (ByteArray.mk #[35]).size ≤ maxLen := by rw [mk1_size]; unfold maxLen; omega
  have hs46 : r1.size + (ByteArray.mk #[46]).size ≤ maxLen := by rw [mk1_size]; unfold maxLen; omega
  have hs63 : r1.size + (ByteArray.mk #[63]).size ≤ maxLen := by rw [mk1_size]; unfold maxLen; omega
  have hs10 : r1.size + (ByteArray.mk #[10]).size ≤ maxLen := by rw [mk1_size]; unfold maxLen; omega
  by_cases hq : q1 < 12
  · have hqI : ((q1 : Int) < 12) = True := eq_true (by omega)
    have hw : IntKind.wrap .u64 (q1 : Int) = (q1 : Int) := by simp [IntKind.wrap, IntKind.bits, IntKind.signed]; omega
    have b1 := bitI (p := m.seen.toNat) (by omega) q1 (by omega)
    rw [e1] at b1
    have b2 := bitI (p := m.blank.toNat) (by omega) q1 (by omega)
    rw [e2] at b2
    by_cases t1 : m.seen.toNat.testBit q1 = true
    · rw [if_pos t1] at b1
      have hpin : pinB m q1 = 35 := by unfold pinB; rw [if_pos t1]
      repeat' first
        | apply AW.seq | apply AW.region | apply AW.ret | apply AW.block | apply AW.skip | apply AW.exit | apply AW.scope | apply AW.label | apply AWL.nil | apply D.nil
        | refine W.draw cx_mixed (by decide +kernel) ?_
        | ((first | (apply W.step cx_ok; decide) | (apply D.step cx_ok; decide; decide) | apply AW.cond); (simp (disch := omega) only [push_cast, simprocAttr, hS1, hZ1, natNe, List.mem_cons, List.not_mem_nil, TyD.isAgg, Nat.add_assoc, Bool.and_self, Bool.and_true, Bool.true_and, Bool.false_and, Bool.and_false, Bool.not_true, Bool.not_false, Bool.false_eq_true, hqI, hw, hs35, b1] <;> rfl); all_goals try ((with_reducible intro hI); try first | (cases hI; done) | (simp only [INTS, not_true_eq_false] at hI; try first | (exfalso; omega) | (have hT : True := hI; clear hT hI))))
        | ((first | apply W.ret1 | apply W.end1); (iterate 2 (try (simp (disch := omega) only [push_cast, simprocAttr, hS1, hZ1, natNe, List.mem_cons, List.not_mem_nil, TyD.isAgg, Nat.add_assoc, Bool.and_self, Bool.and_true, Bool.true_and, Bool.false_and, Bool.and_false, Bool.not_true, Bool.not_false, Bool.false_eq_true, hqI, hw, hs35, b1] <;> rfl))))

      all_goals (refine ⟨12 - (q1 + 1), ?_, q1 + 1, r1 ++ ByteArray.mk #[35], rfl, (by omega), (by rw [hp11, pinsB, hpin, ByteArray.append_assoc]), ?_, ?_, ?_, ?_, ?_⟩; (omega); all_goals first | (simp (disch := omega) only [push_cast, simprocAttr, hS1, hZ1, natNe, List.mem_cons, List.not_mem_nil, TyD.isAgg, Nat.add_assoc, Bool.and_self, Bool.and_true, Bool.true_and, Bool.false_and, Bool.and_false, Bool.not_true, Bool.not_false, Bool.false_eq_true, hqI, hw, hs35, b1] <;> first | rfl | omega) | omega)
    rw [if_neg t1] at b1
    by_cases t2 : m.blank.toNat.testBit q1 = true
    · rw [if_pos t2] at b2
      have hpin : pinB m q1 = 46 := by unfold pinB; rw [if_neg t1, if_pos t2]
      repeat' first
        | apply AW.seq | apply AW.region | apply AW.ret | apply AW.block | apply AW.skip | apply AW.exit | apply AW.scope | apply AW.label | apply AWL.nil | apply D.nil
        | refine W.draw cx_mixed (by decide +kernel) ?_
        | ((first | (apply W.step cx_ok; decide) | (apply D.step cx_ok; decide; decide) | apply AW.cond); (simp (disch := omega) only [push_cast, simprocAttr, hS1, hZ1, natNe, List.mem_cons, List.not_mem_nil, TyD.isAgg, Nat.add_assoc, Bool.and_self, Bool.and_true, Bool.true_and, Bool.false_and, Bool.and_false, Bool.not_true, Bool.not_false, Bool.false_eq_true, hqI, hw, hs46, b1, b2] <;> rfl); all_goals try ((with_reducible intro hI); try first | (cases hI; done) | (simp only [INTS, not_true_eq_false] at hI; try first | (exfalso; omega) | (have hT : True := hI; clear hT hI))))
        | ((first | apply W.ret1 | apply W.end1); (iterate 2 (try (simp (disch := omega) only [push_cast, simprocAttr, hS1, hZ1, natNe, List.mem_cons, List.not_mem_nil, TyD.isAgg, Nat.add_assoc, Bool.and_self, Bool.and_true, Bool.true_and, Bool.false_and, Bool.and_false, Bool.not_true, Bool.not_false, Bool.false_eq_true, hqI, hw, hs46, b1, b2] <;> rfl))))

      all_goals (refine ⟨12 - (q1 + 1), ?_, q1 + 1, r1 ++ ByteArray.mk #[46], rfl, (by omega), (by rw [hp11, pinsB, hpin, ByteArray.append_assoc]), ?_, ?_, ?_, ?_, ?_⟩; (omega); all_goals first | (simp (disch := omega) only [push_cast, simprocAttr, hS1, hZ1, natNe, List.mem_cons, List.not_mem_nil, TyD.isAgg, Nat.add_assoc, Bool.and_self, Bool.and_true, Bool.true_and, Bool.false_and, Bool.and_false, Bool.not_true, Bool.not_false, Bool.false_eq_true, hqI, hw, hs46, b1, b2] <;> first | rfl | omega) | omega)
    · rw [if_neg t2] at b2
      have hpin : pinB m q1 = 63 := by unfold pinB; rw [if_neg t1, if_neg t2]
      repeat' first
        | apply AW.seq | apply AW.region | apply AW.ret | apply AW.block | apply AW.skip | apply AW.exit | apply AW.scope | apply AW.label | apply AWL.nil | apply D.nil
        | refine W.draw cx_mixed (by decide +kernel) ?_
        | ((first | (apply W.step cx_ok; decide) | (apply D.step cx_ok; decide; decide) | apply AW.cond); (simp (disch := omega) only [push_cast, simprocAttr, hS1, hZ1, natNe, List.mem_cons, List.not_mem_nil, TyD.isAgg, Nat.add_assoc, Bool.and_self, Bool.and_true, Bool.true_and, Bool.false_and, Bool.and_false, Bool.not_true, Bool.not_false, Bool.false_eq_true, hqI, hw, hs63, b1, b2] <;> rfl); all_goals try ((with_reducible intro hI); try first | (cases hI; done) | (simp only [INTS, not_true_eq_false] at hI; try first | (exfalso; omega) | (have hT : True := hI; clear hT hI))))
        | ((first | apply W.ret1 | apply W.end1); (iterate 2 (try (simp (disch := omega) only [push_cast, simprocAttr, hS1, hZ1, natNe, List.mem_cons, List.not_mem_nil, TyD.isAgg, Nat.add_assoc, Bool.and_self, Bool.and_true, Bool.true_and, Bool.false_and, Bool.and_false, Bool.not_true, Bool.not_false, Bool.false_eq_true, hqI, hw, hs63, b1, b2] <;> rfl))))

      all_goals (refine ⟨12 - (q1 + 1), ?_, q1 + 1, r1 ++ ByteArray.mk #[63], rfl, (by omega), (by rw [hp11, pinsB, hpin, ByteArray.append_assoc]), ?_, ?_, ?_, ?_, ?_⟩; (omega); all_goals first | (simp (disch := omega) only [push_cast, simprocAttr, hS1, hZ1, natNe, List.mem_cons, List.not_mem_nil, TyD.isAgg, Nat.add_assoc, Bool.and_self, Bool.and_true, Bool.true_and, Bool.false_and, Bool.and_false, Bool.not_true, Bool.not_false, Bool.false_eq_true, hqI, hw, hs63, b1, b2] <;> first | rfl | omega) | omega)
  have hqI : ((q1 : Int) < 12) = False := eq_false (by omega)
  have hq12 : q1 = 12 := by omega
  subst hq12
  have hfin : r1 ++ ByteArray.mk #[10] = lineB m := by rw [hp11]; rfl
  repeat' first
    | apply AW.seq | apply AW.region | apply AW.ret | apply AW.block | apply AW.skip | apply AW.exit | apply AW.scope | apply AW.label | apply AWL.nil | apply D.nil
    | refine W.draw cx_mixed (by decide +kernel) ?_
    | ((first | (apply W.step cx_ok; decide) | (apply D.step cx_ok; decide; decide) | apply AW.cond); (simp (disch := omega) only [push_cast, simprocAttr, hS1, hZ1, natNe, List.mem_cons, List.not_mem_nil, TyD.isAgg, Nat.add_assoc, Bool.and_self, Bool.and_true, Bool.true_and, Bool.false_and, Bool.and_false, Bool.not_true, Bool.not_false, Bool.false_eq_true, hqI, hs10, hfin] <;> rfl); all_goals try ((with_reducible intro hI); try first | (cases hI; done) | (simp only [INTS, not_true_eq_false] at hI; try first | (exfalso; omega) | (have hT : True := hI; clear hT hI))))
    | ((first | apply W.ret1 | apply W.end1); (iterate 2 (try (simp (disch := omega) only [push_cast, simprocAttr, hS1, hZ1, natNe, List.mem_cons, List.not_mem_nil, TyD.isAgg, Nat.add_assoc, Bool.and_self, Bool.and_true, Bool.true_and, Bool.false_and, Bool.and_false, Bool.not_true, Bool.not_false, Bool.false_eq_true, hqI, hs10, hfin] <;> rfl))))

  all_goals (show _ = _; rfl)
def printF (ms : List Mark) : ByteArray × Int := if 60 < ms.length then (ByteArray.empty, 2) else if ms.all markV = true then (textB ms, 0) else (ByteArray.empty, 1)
theorem RPrint_ok (ms : List Mark) (hl : ms.length ≤ 1099511627776) : OKv cx 23 [lMark ms] (.tup [at_ (printF ms).1, ai (printF ms).2]) := by
  obtain ⟨TT, hTT⟩ : ∃ z, textB ms = z := ⟨_, rfl⟩
  obtain ⟨VV, hVV⟩ : ∃ z, ms.all markV = z := ⟨_, rfl⟩
  unfold printF
  rw [hTT, hVV]
  by_cases h60 : 60 < ms.length
  · rw [if_pos h60]
    have hT : (60 < (ms.length : Int)) = True := eq_true (by omega)
    refine OKat.of_body (rs := [2, 3]) Tryz.func23 rfl (by decide +kernel) rfl (by simp [Tryz.ntmps23]) ?_
    simp only [Tryz.ntmps23]
    repeat' first
      | apply AW.seq | apply AW.region | apply AW.ret | apply AW.block | apply AW.skip | apply AW.exit | apply AW.scope | apply AW.label | apply AWL.nil
      | ((first | (apply W.step cx_ok; decide) | apply AW.cond); (simp (disch := omega) only [push_cast, simprocAttr, natNe, List.mem_cons, List.not_mem_nil, TyD.isAgg, Nat.add_assoc, Bool.and_self, Bool.and_true, Bool.true_and, Bool.false_and, Bool.and_false, Bool.not_true, Bool.not_false, Bool.false_eq_true, hT] <;> rfl); all_goals try ((with_reducible intro hI); try first | (cases hI; done) | (simp only [INTS, not_true_eq_false] at hI; try first | (exfalso; omega) | (have hT : True := hI; clear hT hI))))
      | ((first | apply W.ret2 | apply W.end2); (iterate 2 (try (simp (disch := omega) only [push_cast, simprocAttr, natNe, List.mem_cons, List.not_mem_nil, TyD.isAgg, Nat.add_assoc, Bool.and_self, Bool.and_true, Bool.true_and, Bool.false_and, Bool.and_false, Bool.not_true, Bool.not_false, Bool.false_eq_true, hT] <;> rfl))))

    all_goals (show _ = _; rfl)
  rw [if_neg h60]
  have hF : (60 < (ms.length : Int)) = False := eq_false (by omega)
  obtain ⟨RR, hRR⟩ : ∃ z, (if VV = true then (TT, 0) else (ByteArray.empty, 1) : ByteArray × Int) = z := ⟨_, rfl⟩
  rw [hRR]
  refine OKat.of_body (rs := [2, 3]) Tryz.func23 rfl (by decide +kernel) rfl (by simp [Tryz.ntmps23]) ?_
  simp only [Tryz.ntmps23]
  repeat' first
    | apply AW.seq | apply AW.region | apply AW.ret | apply AW.block | apply AW.skip | apply AW.exit | apply AW.scope | apply AW.label | apply AWL.nil
    | ((first | (apply W.step cx_ok; decide) | apply AW.cond); (simp (disch := omega) only [push_cast, simprocAttr, natNe, List.mem_cons, List.not_mem_nil, TyD.isAgg, Nat.add_assoc, Bool.and_self, Bool.and_true, Bool.true_and, Bool.false_and, Bool.and_false, Bool.not_true, Bool.not_false, Bool.false_eq_true, hF] <;> rfl); all_goals try ((with_reducible intro hI); try first | (cases hI; done) | (simp only [INTS, not_true_eq_false] at hI; try first | (exfalso; omega) | (have hT : True := hI; clear hT hI))))
    | ((first | apply W.ret2 | apply W.end2); (iterate 2 (try (simp (disch := omega) only [push_cast, simprocAttr, natNe, List.mem_cons, List.not_mem_nil, TyD.isAgg, Nat.add_assoc, Bool.and_self, Bool.and_true, Bool.true_and, Bool.false_and, Bool.and_false, Bool.not_true, Bool.not_false, Bool.false_eq_true, hF] <;> rfl))))

  refine AW.loop (fun n s => ∃ (k : Nat) (l : ByteArray) (rest : List Mark), n = rest.length ∧ (ms.drop k = rest) ∧ (l ++ textB rest = TT) ∧ (rest.all markV = VV) ∧ (l.size ≤ 79 * k) ∧ (k ≤ ms.length) ∧ s.tm 0 = lMark ms ∧ s.tm 4 = at_ l ∧ s.tm 5 = ai k) (ms.length) ⟨0, ByteArray.empty, ms, rfl, rfl, (by rw [empty_app]; exact hTT), hVV, (Nat.zero_le _), (Nat.zero_le _), ?_, ?_, ?_⟩ ?_
  iterate 3 (first | (simp (disch := omega) only [push_cast, simprocAttr, natNe, List.mem_cons, List.not_mem_nil, TyD.isAgg, Nat.add_assoc, Bool.and_self, Bool.and_true, Bool.true_and, Bool.false_and, Bool.and_false, Bool.not_true, Bool.not_false, Bool.false_eq_true, hF] <;> first | rfl | omega) | omega)
  rintro n1 s1 ⟨k1, l1, rest1, hn1, hp01, hp11, hp21, hp31, hp41, hS1⟩
  rcases rest1 with _ | ⟨x, rest1⟩
  · have hk := drop_nil hp01
    have hq : l1 = TT := by rw [← hp11]; exact (app_empty _).symm
    have hv1 : VV = true := by rw [← hp21]; rfl
    rw [if_pos hv1, ← hq] at hRR
    subst hRR
    repeat' first
      | apply AW.seq | apply AW.region | apply AW.ret | apply AW.block | apply AW.skip | apply AW.exit | apply AW.scope | apply AW.label | apply AWL.nil
      | ((first | (apply W.step cx_ok; decide) | apply AW.cond); (simp (disch := omega) only [push_cast, simprocAttr, hS1, natNe, List.mem_cons, List.not_mem_nil, TyD.isAgg, Nat.add_assoc, Bool.and_self, Bool.and_true, Bool.true_and, Bool.false_and, Bool.and_false, Bool.not_true, Bool.not_false, Bool.false_eq_true, hk] <;> rfl); all_goals try ((with_reducible intro hI); try first | (cases hI; done) | (simp only [INTS, not_true_eq_false] at hI; try first | (exfalso; omega) | (have hT : True := hI; clear hT hI))))
      | ((first | apply W.ret2 | apply W.end2); (iterate 2 (try (simp (disch := omega) only [push_cast, simprocAttr, hS1, natNe, List.mem_cons, List.not_mem_nil, TyD.isAgg, Nat.add_assoc, Bool.and_self, Bool.and_true, Bool.true_and, Bool.false_and, Bool.and_false, Bool.not_true, Bool.not_false, Bool.false_eq_true, hk] <;> rfl))))

    all_goals (show _ = _; rfl)
  obtain ⟨hk, hg, hd', hl', hm', hx⟩ := drop_cons hp01 eMark []
  have c1 := RMark_ok x
  rw [List.all_cons] at hp21
  cases hv : markV x with
  | false =>
    rw [hv] at c1 hp21
    rw [if_neg (by rw [← hp21]; simp)] at hRR
    subst hRR
    repeat' first
      | apply AW.seq | apply AW.region | apply AW.ret | apply AW.block | apply AW.skip | apply AW.exit | apply AW.scope | apply AW.label | apply AWL.nil
      | ((first | (apply W.step cx_ok; decide) | apply AW.cond); (simp (disch := omega) only [push_cast, simprocAttr, hS1, natNe, List.mem_cons, List.not_mem_nil, TyD.isAgg, Nat.add_assoc, Bool.and_self, Bool.and_true, Bool.true_and, Bool.false_and, Bool.and_false, Bool.not_true, Bool.not_false, Bool.false_eq_true, hk, hg, hx] <;> rfl); all_goals try ((with_reducible intro hI); try first | (cases hI; done) | (simp only [INTS, not_true_eq_false] at hI; try first | (exfalso; omega) | (have hT : True := hI; clear hT hI))))
      | ((apply W.callv cx_ok; decide); (iterate 2 (simp (disch := omega) only [push_cast, simprocAttr, hS1, natNe, List.mem_cons, List.not_mem_nil, TyD.isAgg, Nat.add_assoc, Bool.and_self, Bool.and_true, Bool.true_and, Bool.false_and, Bool.and_false, Bool.not_true, Bool.not_false, Bool.false_eq_true, hk, hg, hx] <;> rfl)); (with_reducible first | exact c1); try first | rfl | (simp (disch := omega) only [push_cast, simprocAttr, hS1, natNe, List.mem_cons, List.not_mem_nil, TyD.isAgg, Nat.add_assoc, Bool.and_self, Bool.and_true, Bool.true_and, Bool.false_and, Bool.and_false, Bool.not_true, Bool.not_false, Bool.false_eq_true, hk, hg, hx] <;> rfl))
      | ((first | apply W.ret2 | apply W.end2); (iterate 2 (try (simp (disch := omega) only [push_cast, simprocAttr, hS1, natNe, List.mem_cons, List.not_mem_nil, TyD.isAgg, Nat.add_assoc, Bool.and_self, Bool.and_true, Bool.true_and, Bool.false_and, Bool.and_false, Bool.not_true, Bool.not_false, Bool.false_eq_true, hk, hg, hx] <;> rfl))))

    all_goals (show _ = _; rfl)
  | true =>
  rw [hv] at c1 hp21
  rw [Bool.true_and] at hp21
  have c2 := RLine_ok x hv
  have hls := (lineB_size x hv).2
  have hsz : l1.size + (lineB x).size ≤ maxLen := by unfold maxLen; omega
  have hap : l1 ++ lineB x ++ textB rest1 = TT := by rw [← hp11, textB_cons, ByteArray.append_assoc]
  repeat' first
    | apply AW.seq | apply AW.region | apply AW.ret | apply AW.block | apply AW.skip | apply AW.exit | apply AW.scope | apply AW.label | apply AWL.nil
    | ((first | (apply W.step cx_ok; decide) | apply AW.cond); (simp (disch := omega) only [push_cast, simprocAttr, hS1, natNe, List.mem_cons, List.not_mem_nil, TyD.isAgg, Nat.add_assoc, Bool.and_self, Bool.and_true, Bool.true_and, Bool.false_and, Bool.and_false, Bool.not_true, Bool.not_false, Bool.false_eq_true, hk, hg, hx, hsz] <;> rfl); all_goals try ((with_reducible intro hI); try first | (cases hI; done) | (simp only [INTS, not_true_eq_false] at hI; try first | (exfalso; omega) | (have hT : True := hI; clear hT hI))))
    | ((apply W.callv cx_ok; decide); (iterate 2 (simp (disch := omega) only [push_cast, simprocAttr, hS1, natNe, List.mem_cons, List.not_mem_nil, TyD.isAgg, Nat.add_assoc, Bool.and_self, Bool.and_true, Bool.true_and, Bool.false_and, Bool.and_false, Bool.not_true, Bool.not_false, Bool.false_eq_true, hk, hg, hx, hsz] <;> rfl)); (with_reducible first | exact c1 | exact c2); try first | rfl | (simp (disch := omega) only [push_cast, simprocAttr, hS1, natNe, List.mem_cons, List.not_mem_nil, TyD.isAgg, Nat.add_assoc, Bool.and_self, Bool.and_true, Bool.true_and, Bool.false_and, Bool.and_false, Bool.not_true, Bool.not_false, Bool.false_eq_true, hk, hg, hx, hsz] <;> rfl))
    | ((first | apply W.ret2 | apply W.end2); (iterate 2 (try (simp (disch := omega) only [push_cast, simprocAttr, hS1, natNe, List.mem_cons, List.not_mem_nil, TyD.isAgg, Nat.add_assoc, Bool.and_self, Bool.and_true, Bool.true_and, Bool.false_and, Bool.and_false, Bool.not_true, Bool.not_false, Bool.false_eq_true, hk, hg, hx, hsz] <;> rfl))))

  all_goals (refine ⟨rest1.length, ?_, k1 + 1, l1 ++ lineB x, rest1, rfl, hd', hap, hp21, (by rw [ByteArray.size_append]; omega), (by omega), ?_, ?_, ?_⟩; ((simp only [List.length_cons] at *; omega)); all_goals first | (simp (disch := omega) only [push_cast, simprocAttr, hS1, hk, hg, hx, hsz, natNe, List.mem_cons, List.not_mem_nil, TyD.isAgg, Nat.add_assoc, Bool.and_self, Bool.and_true, Bool.true_and, Bool.false_and, Bool.and_false, Bool.not_true, Bool.not_false, Bool.false_eq_true] <;> first | rfl | omega) | omega)
end Go.Proofs.Dz
