/-
  Contracts of functions, proved by going through their code. No conditions.
-/
import Derived.Test.YtkdiplkmcilkmaaGreatDoorTEqD
import Derived.Test.YtkdiplkmcilkmaaGreatDoorTEqE
set_option linter.unusedVariables false
set_option linter.unusedSimpArgs false
set_option maxHeartbeats 8000000
set_option maxRecDepth 10000
namespace Go.Proofs.Dz
open Go Go.Pg Go.Proofs Go.Proofs.Ds Go.Tx
theorem shlI : ∀ k : Fin 12, IntKind.wrap .i64 (1 * 2 ^ (min k.val (IntKind.bits .i64))) = ((1 <<< k.val : Nat) : Int) := by decide +kernel
theorem bits_le (c : UInt8) (w : Nat → UInt8) (k : Nat) (hk : k ≤ 12) : bitsOf c w k < 4096 := Nat.lt_of_lt_of_le (bitsOf_lt c w k) (by calc 2 ^ k ≤ 2 ^ 12 := Nat.pow_le_pow_right (by decide) hk
    _ = 4096 := rfl)
theorem Read_ok (s0 : ByteArray) (at0 : Nat) (hs : s0.size ≤ 1099511627776) (ha : at0 ≤ s0.size) : OKv cx 58 [at_ s0, ai at0] (.tup [.agg (eMark (readR s0 at0).1), ai (readR s0 at0).2.1, ab (readR s0 at0).2.2]) := by
  obtain ⟨T, A, hA⟩ : ∃ T A, numR s0 at0 = (T, A) := ⟨_, _, rfl⟩
  obtain ⟨F, B, hB⟩ : ∃ F B, numR s0 (A + 1) = (F, B) := ⟨_, _, rfl⟩
  obtain ⟨M, C, hC⟩ : ∃ M C, numR s0 (B + 1) = (M, C) := ⟨_, _, rfl⟩
  have u1 := numR_up s0 at0
  have u2 := numR_up s0 (A + 1)
  have u3 := numR_up s0 (B + 1)
  have l1 := numR_le s0 at0
  have l2 := numR_le s0 (A + 1)
  have l3 := numR_le s0 (B + 1)
  have c1 := RNumber_ok s0 at0 hs (by omega)
  rw [hA] at c1 u1 l1
  dsimp only at u1 l1
  have c2 : OKv cx 82 [at_ s0, ai ((A : Int) + 1)] (.tup [ai (numR s0 (A + 1)).1, ai (numR s0 (A + 1)).2]) := RNumber_ok s0 (A + 1) hs (by omega)
  rw [hB] at c2 u2 l2
  dsimp only at u2 l2
  have c3 : OKv cx 82 [at_ s0, ai ((B : Int) + 1)] (.tup [ai (numR s0 (B + 1)).1, ai (numR s0 (B + 1)).2]) := RNumber_ok s0 (B + 1) hs (by omega)
  rw [hC] at c3 u3 l3
  dsimp only at u3 l3
  have hE : endR s0 at0 = C := by unfold endR; rw [hA]; dsimp only; rw [hB]; dsimp only; rw [hC]
  have hM : markR s0 at0 = ⟨⟨F, M⟩, T, (bitsOf 35 (pinR s0 C) 12 : Nat), (bitsOf 46 (pinR s0 C) 12 : Nat)⟩ := by unfold markR; rw [hA]; dsimp only; rw [hB]; dsimp only; rw [hC]
  unfold readR
  rw [hE, hM]
  by_cases hz : s0.size < C + 14
  · rw [if_pos hz]
    have hzT : ((s0.size : Int) < (C : Int) + 14) = True := eq_true (by omega)
    refine OKat.of_bodyM cx_ok (rs := [.cell 4 26, .tmp 5, .tmp 6]) Tryz.func58 rfl (by decide +kernel) rfl (by simp [Tryz.ntmps58]) ?_
    simp only [Tryz.ntmps58]
    repeat' first
      | apply AW.seq | apply AW.region | apply AW.ret | apply AW.block | apply AW.skip | apply AW.exit | apply AW.scope | apply AW.label | apply AWL.nil | apply D.nil
      | refine W.draw cx_mixed (by decide +kernel) ?_
      | ((first | (apply W.step cx_ok; decide) | (apply D.step cx_ok; decide; decide) | apply W.store cx_ok | apply AW.cond); (simp (disch := omega) only [push_cast, simprocAttr, natNe, List.mem_cons, List.not_mem_nil, TyD.isAgg, Nat.add_assoc, Bool.and_self, Bool.and_true, Bool.true_and, Bool.false_and, Bool.and_false, Bool.not_true, Bool.not_false, Bool.false_eq_true, hzT] <;> rfl); all_goals try ((with_reducible intro hI); try first | (cases hI; done) | (simp only [INTS, not_true_eq_false] at hI; try first | (exfalso; omega) | (have hT : True := hI; clear hT hI))))
      | ((first | (apply W.callv cx_ok; decide) | (apply D.callv cx_ok; decide; decide)); (iterate 2 (simp (disch := omega) only [push_cast, simprocAttr, natNe, List.mem_cons, List.not_mem_nil, TyD.isAgg, Nat.add_assoc, Bool.and_self, Bool.and_true, Bool.true_and, Bool.false_and, Bool.and_false, Bool.not_true, Bool.not_false, Bool.false_eq_true, hzT] <;> rfl)); (with_reducible first | exact c1 | exact c2 | exact c3); try first | rfl | (simp (disch := omega) only [push_cast, simprocAttr, natNe, List.mem_cons, List.not_mem_nil, TyD.isAgg, Nat.add_assoc, Bool.and_self, Bool.and_true, Bool.true_and, Bool.false_and, Bool.and_false, Bool.not_true, Bool.not_false, Bool.false_eq_true, hzT] <;> rfl))
      | ((first | apply W.retM | apply W.endM'); (iterate 2 (try (simp (disch := omega) only [push_cast, simprocAttr, natNe, List.mem_cons, List.not_mem_nil, TyD.isAgg, Nat.add_assoc, Bool.and_self, Bool.and_true, Bool.true_and, Bool.false_and, Bool.and_false, Bool.not_true, Bool.not_false, Bool.false_eq_true, hzT] <;> rfl))))

    all_goals (show _ = _; rfl)
  rw [if_neg hz]
  have hzF : ((s0.size : Int) < (C : Int) + 14) = False := eq_false (by omega)
  obtain ⟨RES, hRES⟩ : ∃ z, (if markV ⟨⟨F, M⟩, T, (bitsOf 35 (pinR s0 C) 12 : Nat), (bitsOf 46 (pinR s0 C) 12 : Nat)⟩ = true then ((⟨⟨F, M⟩, T, (bitsOf 35 (pinR s0 C) 12 : Nat), (bitsOf 46 (pinR s0 C) 12 : Nat)⟩, C + 14, bl (s0.extract at0 (C + 14)) == bl (lineB ⟨⟨F, M⟩, T, (bitsOf 35 (pinR s0 C) 12 : Nat), (bitsOf 46 (pinR s0 C) 12 : Nat)⟩)) : Mark × Nat × Bool) else (markO, at0, false)) = z := ⟨_, rfl⟩
  rw [hRES]
  refine OKat.of_bodyM cx_ok (rs := [.cell 4 26, .tmp 5, .tmp 6]) Tryz.func58 rfl (by decide +kernel) rfl (by simp [Tryz.ntmps58]) ?_
  simp only [Tryz.ntmps58]
  repeat' first
    | apply AW.seq | apply AW.region | apply AW.ret | apply AW.block | apply AW.skip | apply AW.exit | apply AW.scope | apply AW.label | apply AWL.nil | apply D.nil
    | refine W.draw cx_mixed (by decide +kernel) ?_
    | ((first | (apply W.step cx_ok; decide) | (apply D.step cx_ok; decide; decide) | apply W.store cx_ok | apply AW.cond); (simp (disch := omega) only [push_cast, simprocAttr, natNe, List.mem_cons, List.not_mem_nil, TyD.isAgg, Nat.add_assoc, Bool.and_self, Bool.and_true, Bool.true_and, Bool.false_and, Bool.and_false, Bool.not_true, Bool.not_false, Bool.false_eq_true, hzF] <;> rfl); all_goals try ((with_reducible intro hI); try first | (cases hI; done) | (simp only [INTS, not_true_eq_false] at hI; try first | (exfalso; omega) | (have hT : True := hI; clear hT hI))))
    | ((first | (apply W.callv cx_ok; decide) | (apply D.callv cx_ok; decide; decide)); (iterate 2 (simp (disch := omega) only [push_cast, simprocAttr, natNe, List.mem_cons, List.not_mem_nil, TyD.isAgg, Nat.add_assoc, Bool.and_self, Bool.and_true, Bool.true_and, Bool.false_and, Bool.and_false, Bool.not_true, Bool.not_false, Bool.false_eq_true, hzF] <;> rfl)); (with_reducible first | exact c1 | exact c2 | exact c3); try first | rfl | (simp (disch := omega) only [push_cast, simprocAttr, natNe, List.mem_cons, List.not_mem_nil, TyD.isAgg, Nat.add_assoc, Bool.and_self, Bool.and_true, Bool.true_and, Bool.false_and, Bool.and_false, Bool.not_true, Bool.not_false, Bool.false_eq_true, hzF] <;> rfl))
    | ((first | apply W.retM | apply W.endM'); (iterate 2 (try (simp (disch := omega) only [push_cast, simprocAttr, natNe, List.mem_cons, List.not_mem_nil, TyD.isAgg, Nat.add_assoc, Bool.and_self, Bool.and_true, Bool.true_and, Bool.false_and, Bool.and_false, Bool.not_true, Bool.not_false, Bool.false_eq_true, hzF] <;> rfl))))

  refine AW.loop (fun n s => ∃ (k : Nat), n = 12 - k ∧ (k ≤ 12) ∧ 2 ≤ s.nx ∧ s.tm 0 = at_ s0 ∧ s.tm 1 = ai at0 ∧ s.tm 4 = .ptr 0 0 0 1 ∧ s.tm 12 = ai C ∧ s.tm 13 = .ptr 1 0 0 1 ∧ s.tm 14 = ai k ∧ Pg.rowAt s.H (0) = some ({ k := 5, es := [[ai 0, ai 0, ai 0, ai 0, ai 0]], ty := 26 }) ∧ Pg.rowAt s.H (1) = some ({ k := 5, es := [[ai F, ai M, ai T, ai (bitsOf 35 (pinR s0 C) k : Nat), ai (bitsOf 46 (pinR s0 C) k : Nat)]], ty := 26 })) (12) ⟨0, rfl, (by omega), ?_, ?_, ?_, ?_, ?_, ?_, ?_, ?_, ?_⟩ ?_
  iterate 9 (first | (simp (disch := omega) only [push_cast, simprocAttr, natNe, List.mem_cons, List.not_mem_nil, TyD.isAgg, Nat.add_assoc, Bool.and_self, Bool.and_true, Bool.true_and, Bool.false_and, Bool.and_false, Bool.not_true, Bool.not_false, Bool.false_eq_true, hzF, bitsOf, Int.natCast_zero] <;> first | rfl | omega) | omega)
  rintro n1 s1 ⟨k1, hn1, hp01, hnl1, hS1⟩
  have hZ1 : (0 : Nat) ≠ s1.nx ∧ s1.nx ≠ (0 : Nat) ∧ (1 : Nat) ≠ s1.nx ∧ s1.nx ≠ (1 : Nat) := by omega
  by_cases hk : k1 < 12
  · have hkT : ((k1 : Int) < 12) = True := eq_true (by omega)
    have hsh := shlI ⟨k1, hk⟩
    dsimp only at hsh
    have hix1 : 0 ≤ (C : Int) + 1 + (k1 : Int) := by omega
    have hix2 : (C : Int) + 1 + (k1 : Int) < (s0.size : Int) := by omega
    have hix3 : ((C : Int) + 1 + (k1 : Int)).toNat = C + (1 + k1) := by omega
    obtain ⟨x, hx⟩ : ∃ z, s0.data.toList.getD (C + 1 + k1) 0 = z := ⟨_, rfl⟩
    have hxp : pinR s0 C k1 = x := hx
    rw [Nat.add_assoc] at hx
    have p35 := bits_le 35 (pinR s0 C) k1 (by omega)
    have p46 := bits_le 46 (pinR s0 C) k1 (by omega)
    have hs1 : 1 <<< k1 < 4096 := by
      rw [Nat.one_shiftLeft]
      calc 2 ^ k1 ≤ 2 ^ 11 := Nat.pow_le_pow_right (by decide) (by omega)
        _ < 4096 := by decide
    have hw : IntKind.wrap .u64 (k1 : Int) = (k1 : Int) := by simp [IntKind.wrap, IntKind.bits, IntKind.signed]; omega
    obtain ⟨Z, hZZ⟩ : ∃ z, 1 <<< k1 = z := ⟨_, rfl⟩
    rw [hZZ] at hsh hs1
    by_cases h35 : x = 35
    · subst h35
      have o1 := orI (p := bitsOf 35 (pinR s0 C) k1) (q := Z) (by omega) (by omega)
      have g35 : bitsOf 35 (pinR s0 C) (k1 + 1) = bitsOf 35 (pinR s0 C) k1 ||| Z := by rw [bitsOf, hxp, if_pos rfl, hZZ]
      have g46 : bitsOf 46 (pinR s0 C) (k1 + 1) = bitsOf 46 (pinR s0 C) k1 := by rw [bitsOf, hxp, if_neg (by decide)]
      have e35 : (((35 : UInt8).toNat : Int) == 35) = true := rfl
      have e46 : (((35 : UInt8).toNat : Int) == 46) = false := rfl
      repeat' first
        | apply AW.seq | apply AW.region | apply AW.ret | apply AW.block | apply AW.skip | apply AW.exit | apply AW.scope | apply AW.label | apply AWL.nil | apply D.nil
        | refine W.draw cx_mixed (by decide +kernel) ?_
        | ((first | (apply W.step cx_ok; decide) | (apply D.step cx_ok; decide; decide) | apply W.store cx_ok | apply AW.cond); (simp (disch := omega) only [push_cast, simprocAttr, hS1, hZ1, natNe, List.mem_cons, List.not_mem_nil, TyD.isAgg, Nat.add_assoc, Bool.and_self, Bool.and_true, Bool.true_and, Bool.false_and, Bool.and_false, Bool.not_true, Bool.not_false, Bool.false_eq_true, hkT, hix1, hix2, hix3, hx, hsh, o1, hw, e35, e46] <;> rfl); all_goals try ((with_reducible intro hI); try first | (cases hI; done) | (simp only [INTS, not_true_eq_false] at hI; try first | (exfalso; omega) | (have hT : True := hI; clear hT hI))))
        | ((first | apply W.retM | apply W.endM'); (iterate 2 (try (simp (disch := omega) only [push_cast, simprocAttr, hS1, hZ1, natNe, List.mem_cons, List.not_mem_nil, TyD.isAgg, Nat.add_assoc, Bool.and_self, Bool.and_true, Bool.true_and, Bool.false_and, Bool.and_false, Bool.not_true, Bool.not_false, Bool.false_eq_true, hkT, hix1, hix2, hix3, hx, hsh, o1, hw, e35, e46] <;> rfl))))

      all_goals (refine ⟨12 - (k1 + 1), ?_, k1 + 1, rfl, (by omega), ?_, ?_, ?_, ?_, ?_, ?_, ?_, ?_, ?_⟩; (omega); all_goals first | (simp (disch := omega) only [push_cast, simprocAttr, hS1, hZ1, natNe, List.mem_cons, List.not_mem_nil, TyD.isAgg, Nat.add_assoc, Bool.and_self, Bool.and_true, Bool.true_and, Bool.false_and, Bool.and_false, Bool.not_true, Bool.not_false, Bool.false_eq_true, hkT, hix1, hix2, hix3, hx, hsh, g35, g46, o1, hw, e35, e46] <;> first | rfl | omega) | omega)
    by_cases h46 : x = 46
    · subst h46
      have o1 := orI (p := bitsOf 46 (pinR s0 C) k1) (q := Z) (by omega) (by omega)
      have g46 : bitsOf 46 (pinR s0 C) (k1 + 1) = bitsOf 46 (pinR s0 C) k1 ||| Z := by rw [bitsOf, hxp, if_pos rfl, hZZ]
      have g35 : bitsOf 35 (pinR s0 C) (k1 + 1) = bitsOf 35 (pinR s0 C) k1 := by rw [bitsOf, hxp, if_neg (by decide)]
      have e35 : (((46 : UInt8).toNat : Int) == 35) = false := rfl
      have e46 : (((46 : UInt8).toNat : Int) == 46) = true := rfl
      repeat' first
        | apply AW.seq | apply AW.region | apply AW.ret | apply AW.block | apply AW.skip | apply AW.exit | apply AW.scope | apply AW.label | apply AWL.nil | apply D.nil
        | refine W.draw cx_mixed (by decide +kernel) ?_
        | ((first | (apply W.step cx_ok; decide) | (apply D.step cx_ok; decide; decide) | apply W.store cx_ok | apply AW.cond); (simp (disch := omega) only [push_cast, simprocAttr, hS1, hZ1, natNe, List.mem_cons, List.not_mem_nil, TyD.isAgg, Nat.add_assoc, Bool.and_self, Bool.and_true, Bool.true_and, Bool.false_and, Bool.and_false, Bool.not_true, Bool.not_false, Bool.false_eq_true, hkT, hix1, hix2, hix3, hx, hsh, o1, hw, e35, e46] <;> rfl); all_goals try ((with_reducible intro hI); try first | (cases hI; done) | (simp only [INTS, not_true_eq_false] at hI; try first | (exfalso; omega) | (have hT : True := hI; clear hT hI))))
        | ((first | apply W.retM | apply W.endM'); (iterate 2 (try (simp (disch := omega) only [push_cast, simprocAttr, hS1, hZ1, natNe, List.mem_cons, List.not_mem_nil, TyD.isAgg, Nat.add_assoc, Bool.and_self, Bool.and_true, Bool.true_and, Bool.false_and, Bool.and_false, Bool.not_true, Bool.not_false, Bool.false_eq_true, hkT, hix1, hix2, hix3, hx, hsh, o1, hw, e35, e46] <;> rfl))))

      all_goals (refine ⟨12 - (k1 + 1), ?_, k1 + 1, rfl, (by omega), ?_, ?_, ?_, ?_, ?_, ?_, ?_, ?_, ?_⟩; (omega); all_goals first | (simp (disch := omega) only [push_cast, simprocAttr, hS1, hZ1, natNe, List.mem_cons, List.not_mem_nil, TyD.isAgg, Nat.add_assoc, Bool.and_self, Bool.and_true, Bool.true_and, Bool.false_and, Bool.and_false, Bool.not_true, Bool.not_false, Bool.false_eq_true, hkT, hix1, hix2, hix3, hx, hsh, g35, g46, o1, hw, e35, e46] <;> first | rfl | omega) | omega)
    · have g46 : bitsOf 46 (pinR s0 C) (k1 + 1) = bitsOf 46 (pinR s0 C) k1 := by rw [bitsOf, hxp, if_neg h46]
      have g35 : bitsOf 35 (pinR s0 C) (k1 + 1) = bitsOf 35 (pinR s0 C) k1 := by rw [bitsOf, hxp, if_neg h35]
      have e35 : ((x.toNat : Int) == 35) = false := by rw [beq_eq_false_iff_ne]; intro h; exact h35 (UInt8.toNat_inj.1 (by exact_mod_cast h))
      have e46 : ((x.toNat : Int) == 46) = false := by rw [beq_eq_false_iff_ne]; intro h; exact h46 (UInt8.toNat_inj.1 (by exact_mod_cast h))
      repeat' first
        | apply AW.seq | apply AW.region | apply AW.ret | apply AW.block | apply AW.skip | apply AW.exit | apply AW.scope | apply AW.label | apply AWL.nil | apply D.nil
        | refine W.draw cx_mixed (by decide +kernel) ?_
        | ((first | (apply W.step cx_ok; decide) | (apply D.step cx_ok; decide; decide) | apply W.store cx_ok | apply AW.cond); (simp (disch := omega) only [push_cast, simprocAttr, hS1, hZ1, natNe, List.mem_cons, List.not_mem_nil, TyD.isAgg, Nat.add_assoc, Bool.and_self, Bool.and_true, Bool.true_and, Bool.false_and, Bool.and_false, Bool.not_true, Bool.not_false, Bool.false_eq_true, hkT, hix1, hix2, hix3, hx, hsh, hw, e35, e46] <;> rfl); all_goals try ((with_reducible intro hI); try first | (cases hI; done) | (simp only [INTS, not_true_eq_false] at hI; try first | (exfalso; omega) | (have hT : True := hI; clear hT hI))))
        | ((first | apply W.retM | apply W.endM'); (iterate 2 (try (simp (disch := omega) only [push_cast, simprocAttr, hS1, hZ1, natNe, List.mem_cons, List.not_mem_nil, TyD.isAgg, Nat.add_assoc, Bool.and_self, Bool.and_true, Bool.true_and, Bool.false_and, Bool.and_false, Bool.not_true, Bool.not_false, Bool.false_eq_true, hkT, hix1, hix2, hix3, hx, hsh, hw, e35, e46] <;> rfl))))

      all_goals (refine ⟨12 - (k1 + 1), ?_, k1 + 1, rfl, (by omega), ?_, ?_, ?_, ?_, ?_, ?_, ?_, ?_, ?_⟩; (omega); all_goals first | (simp (disch := omega) only [push_cast, simprocAttr, hS1, hZ1, natNe, List.mem_cons, List.not_mem_nil, TyD.isAgg, Nat.add_assoc, Bool.and_self, Bool.and_true, Bool.true_and, Bool.false_and, Bool.and_false, Bool.not_true, Bool.not_false, Bool.false_eq_true, hkT, hix1, hix2, hix3, hx, hsh, g35, g46, hw, e35, e46] <;> first | rfl | omega) | omega)
  have hkF : ((k1 : Int) < 12) = False := eq_false (by omega)
  have hk12 : k1 = 12 := by omega
  subst hk12
  have p35 := bits_le 35 (pinR s0 C) 12 (by omega)
  have p46 := bits_le 46 (pinR s0 C) 12 (by omega)
  generalize bitsOf 35 (pinR s0 C) 12 = S at *
  generalize bitsOf 46 (pinR s0 C) 12 = K at *
  have c4 := RMark_ok ⟨⟨F, M⟩, T, (S : Int), (K : Int)⟩
  cases hv : markV ⟨⟨F, M⟩, T, (S : Int), (K : Int)⟩ with
  | false =>
    rw [hv] at c4 hRES
    rw [if_neg Bool.false_ne_true] at hRES
    subst hRES
    repeat' first
      | apply AW.seq | apply AW.region | apply AW.ret | apply AW.block | apply AW.skip | apply AW.exit | apply AW.scope | apply AW.label | apply AWL.nil | apply D.nil
      | refine W.draw cx_mixed (by decide +kernel) ?_
      | ((first | (apply W.step cx_ok; decide) | (apply D.step cx_ok; decide; decide) | apply W.store cx_ok | apply AW.cond); (simp (disch := omega) only [push_cast, simprocAttr, hS1, hZ1, natNe, List.mem_cons, List.not_mem_nil, TyD.isAgg, Nat.add_assoc, Bool.and_self, Bool.and_true, Bool.true_and, Bool.false_and, Bool.and_false, Bool.not_true, Bool.not_false, Bool.false_eq_true, hkF, markO] <;> rfl); all_goals try ((with_reducible intro hI); try first | (cases hI; done) | (simp only [INTS, not_true_eq_false] at hI; try first | (exfalso; omega) | (have hT : True := hI; clear hT hI))))
      | ((first | (apply W.callv cx_ok; decide) | (apply D.callv cx_ok; decide; decide)); (iterate 2 (simp (disch := omega) only [push_cast, simprocAttr, hS1, hZ1, natNe, List.mem_cons, List.not_mem_nil, TyD.isAgg, Nat.add_assoc, Bool.and_self, Bool.and_true, Bool.true_and, Bool.false_and, Bool.and_false, Bool.not_true, Bool.not_false, Bool.false_eq_true, hkF, markO] <;> rfl)); (with_reducible first | exact c4); try first | rfl | (simp (disch := omega) only [push_cast, simprocAttr, hS1, hZ1, natNe, List.mem_cons, List.not_mem_nil, TyD.isAgg, Nat.add_assoc, Bool.and_self, Bool.and_true, Bool.true_and, Bool.false_and, Bool.and_false, Bool.not_true, Bool.not_false, Bool.false_eq_true, hkF, markO] <;> rfl))
      | ((first | apply W.retM | apply W.endM'); (iterate 2 (try (simp (disch := omega) only [push_cast, simprocAttr, hS1, hZ1, natNe, List.mem_cons, List.not_mem_nil, TyD.isAgg, Nat.add_assoc, Bool.and_self, Bool.and_true, Bool.true_and, Bool.false_and, Bool.and_false, Bool.not_true, Bool.not_false, Bool.false_eq_true, hkF, markO] <;> rfl))))

    all_goals (show _ = _; rfl)
  | true =>
    rw [hv] at c4 hRES
    rw [if_pos rfl] at hRES
    have c5 := RLine_ok ⟨⟨F, M⟩, T, (S : Int), (K : Int)⟩ hv
    obtain ⟨LB, hLB⟩ : ∃ z, lineB ⟨⟨F, M⟩, T, (S : Int), (K : Int)⟩ = z := ⟨_, rfl⟩
    rw [hLB] at c5 hRES
    subst hRES
    have hy1 : 0 ≤ (C : Int) + 14 := by omega
    have hy2 : ((C : Int) + 14).toNat = C + 14 := by omega
    have hy3 : at0 ≤ C + 14 := by omega
    have hy4 : C + 14 ≤ s0.size := by omega
    repeat' first
      | apply AW.seq | apply AW.region | apply AW.ret | apply AW.block | apply AW.skip | apply AW.exit | apply AW.scope | apply AW.label | apply AWL.nil | apply D.nil
      | refine AW.draw (id := 18) cx_mixed [10, 11, 12] [1, 2, 3, 4, 5, 6, 7, 8, 9] [0] 0 (by decide +kernel) ?_
      | refine W.draw cx_mixed (by decide +kernel) ?_
      | ((first | (apply W.step cx_ok; decide) | (apply D.step cx_ok; decide; decide) | apply W.store cx_ok | apply AW.cond); (simp (disch := omega) only [push_cast, simprocAttr, hS1, hZ1, natNe, List.mem_cons, List.not_mem_nil, TyD.isAgg, Nat.add_assoc, Bool.and_self, Bool.and_true, Bool.true_and, Bool.false_and, Bool.and_false, Bool.not_true, Bool.not_false, Bool.false_eq_true, hkF, hy1, hy2, hy3, hy4] <;> rfl); all_goals try ((with_reducible intro hI); try first | (cases hI; done) | (simp only [INTS, not_true_eq_false] at hI; try first | (exfalso; omega) | (have hT : True := hI; clear hT hI))))
      | ((first | (apply D.store cx_ok; decide) | (apply D.stept cx_ok; decide; decide) | (apply D.stepm cx_ok; decide; decide)); (simp (disch := omega) only [push_cast, simprocAttr, hS1, hZ1, natNe, List.mem_cons, List.not_mem_nil, TyD.isAgg, Nat.add_assoc, Bool.and_self, Bool.and_true, Bool.true_and, Bool.false_and, Bool.and_false, Bool.not_true, Bool.not_false, Bool.false_eq_true, hkF, hy1, hy2, hy3, hy4] <;> rfl); try first | exact .inl rfl | exact .inr (by simp))
      | ((apply D.alloct cx_ok; decide; decide); (simp (disch := omega) only [push_cast, simprocAttr, hS1, hZ1, natNe, List.mem_cons, List.not_mem_nil, TyD.isAgg, Nat.add_assoc, Bool.and_self, Bool.and_true, Bool.true_and, Bool.false_and, Bool.and_false, Bool.not_true, Bool.not_false, Bool.false_eq_true, hkF, hy1, hy2, hy3, hy4] <;> rfl); first | exact .inl rfl | exact .inr (by simp))
      | ((first | (apply W.callv cx_ok; decide) | (apply D.callv cx_ok; decide; decide) | (apply D.callvt cx_ok; decide; decide)); (iterate 2 (simp (disch := omega) only [push_cast, simprocAttr, hS1, hZ1, natNe, List.mem_cons, List.not_mem_nil, TyD.isAgg, Nat.add_assoc, Bool.and_self, Bool.and_true, Bool.true_and, Bool.false_and, Bool.and_false, Bool.not_true, Bool.not_false, Bool.false_eq_true, hkF, hy1, hy2, hy3, hy4] <;> rfl)); (with_reducible first | exact c4 | exact c5); try first | rfl | (simp (disch := omega) only [push_cast, simprocAttr, hS1, hZ1, natNe, List.mem_cons, List.not_mem_nil, TyD.isAgg, Nat.add_assoc, Bool.and_self, Bool.and_true, Bool.true_and, Bool.false_and, Bool.and_false, Bool.not_true, Bool.not_false, Bool.false_eq_true, hkF, hy1, hy2, hy3, hy4] <;> rfl))
      | ((first | apply W.retM | apply W.endM'); (iterate 2 (try (simp (disch := omega) only [push_cast, simprocAttr, hS1, hZ1, natNe, List.mem_cons, List.not_mem_nil, TyD.isAgg, Nat.add_assoc, Bool.and_self, Bool.and_true, Bool.true_and, Bool.false_and, Bool.and_false, Bool.not_true, Bool.not_false, Bool.false_eq_true, hkF, hy1, hy2, hy3, hy4] <;> rfl))))

    all_goals (show _ = _; rfl)
end Go.Proofs.Dz
