/-
  Contracts of functions, proved by going through their code. No conditions.
-/
import Derived.Test.YtkdiplkmcilkmaaGreatDoorTEqA
import Derived.Test.YtkdiplkmcilkmaaGreatDoorTPkZt
set_option linter.unusedVariables false
set_option linter.unusedSimpArgs false
set_option maxHeartbeats 8000000
set_option maxRecDepth 10000
namespace Go.Proofs.Dz
open Go Go.Pg Go.Proofs Go.Proofs.Ds Go.Tx
def digB (n : Int) : ByteArray := ByteArray.mk #[UInt8.ofNat (48 + n % 10).toNat]
def preB (n : Int) : ByteArray := if n < 10 then ByteArray.empty else itoaB (n / 10)
theorem itoa_pos (n : Int) (h : 0 ≤ n) : bl (itoaB n) = Lib.decDigits n.toNat := by
  obtain ⟨u, rfl⟩ := Int.eq_ofNat_of_zero_le h
  exact itoaB_bl u
theorem pre_dig (n : Int) (h : 0 ≤ n) : preB n ++ digB n = itoaB n := by
  refine bl_inj ?_
  rw [bl_app, itoa_pos n h]
  conv => rhs; rw [Lib.decDigits]
  unfold preB digB
  split
  · rename_i hl
    rw [dif_pos (by omega), show (48 + n % 10).toNat = 48 + n.toNat by omega]; rfl
  · rename_i hl
    rw [dif_neg (by omega), itoa_pos _ (by omega), show (48 + n % 10).toNat = 48 + n.toNat % 10 by omega, show (n / 10).toNat = n.toNat / 10 by omega]
theorem pre_big (n : Int) (h : 10 ≤ n) : preB n = preB (n / 10) ++ digB (n / 10) := by
  rw [pre_dig _ (by omega)]
  unfold preB
  rw [if_neg (by omega)]
theorem digB_size (n : Int) : (ByteArray.mk #[UInt8.ofNat (48 + n % 10).toNat]).size = 1 := rfl
theorem RDecimal_ok (n0 : Int) (h0 : 0 ≤ n0) (h1 : n0 ≤ 4611686018427387904) : OKv cx 76 [ai n0] (at_ (itoaB n0)) := by
  obtain ⟨D, hD⟩ : ∃ z, itoaB n0 = z := ⟨_, rfl⟩
  have hDs := itoaB_size n0 (by omega) (by omega)
  rw [hD] at hDs ⊢
  have hr : n0.tmod 10 = n0 % 10 := Int.tmod_eq_emod_of_nonneg h0
  have hw8 : IntKind.wrap .u8 (48 + n0 % 10) = 48 + n0 % 10 := by simp [IntKind.wrap, IntKind.bits, IntKind.signed]; omega
  refine OKat.of_body (rs := [2]) Tryz.func76 rfl (by decide +kernel) rfl (by simp [Tryz.ntmps76]) ?_
  simp only [Tryz.ntmps76]
  repeat' first
    | ((apply W.byteStr; decide; exact Tryz.underlying84; exact Tryz.underlying5; exact Tryz.underlying9); (iterate 2 (simp (disch := omega) only [push_cast, simprocAttr, natNe, List.mem_cons, List.not_mem_nil, TyD.isAgg, Nat.add_assoc, Bool.and_self, Bool.and_true, Bool.true_and, Bool.false_and, Bool.and_false, Bool.not_true, Bool.not_false, Bool.false_eq_true, hr, hw8] <;> rfl)); rfl; omega)
    | apply AW.seq | apply AW.region | apply AW.ret | apply AW.block | apply AW.skip | apply AW.exit | apply AW.scope | apply AW.label | apply AWL.nil
    | ((first | (apply W.step cx_ok; decide) | apply AW.cond); (simp (disch := omega) only [push_cast, simprocAttr, natNe, List.mem_cons, List.not_mem_nil, TyD.isAgg, Nat.add_assoc, Bool.and_self, Bool.and_true, Bool.true_and, Bool.false_and, Bool.and_false, Bool.not_true, Bool.not_false, Bool.false_eq_true, hr, hw8] <;> rfl); all_goals try ((with_reducible intro hI); try first | (cases hI; done) | (simp only [INTS, not_true_eq_false] at hI; try first | (exfalso; omega) | (have hT : True := hI; clear hT hI))))
    | ((first | apply W.ret1 | apply W.end1); (iterate 2 (try (simp (disch := omega) only [push_cast, simprocAttr, natNe, List.mem_cons, List.not_mem_nil, TyD.isAgg, Nat.add_assoc, Bool.and_self, Bool.and_true, Bool.true_and, Bool.false_and, Bool.and_false, Bool.not_true, Bool.not_false, Bool.false_eq_true, hr, hw8] <;> rfl))))

  refine AW.loop (fun n s => ∃ (v : Int) (r : ByteArray), n = v.toNat ∧ (0 ≤ v) ∧ (preB v ++ r = D) ∧ (v ≤ 4611686018427387904) ∧ s.tm 0 = ai v ∧ s.tm 3 = at_ r) (n0.toNat) ⟨n0, digB n0, rfl, h0, (by rw [pre_dig _ h0, hD]), h1, ?_, ?_⟩ ?_
  iterate 2 (first | (simp (disch := omega) only [push_cast, simprocAttr, natNe, List.mem_cons, List.not_mem_nil, TyD.isAgg, Nat.add_assoc, Bool.and_self, Bool.and_true, Bool.true_and, Bool.false_and, Bool.and_false, Bool.not_true, Bool.not_false, Bool.false_eq_true, hr, hw8] <;> first | rfl | omega) | omega)
  rintro n1 s1 ⟨v1, r1, hn1, hp01, hp11, hp21, hS1⟩
  refine AW.fresh fun hfr1 => ?_
  have hsz : (preB v1).size + r1.size = D.size := by rw [← hp11, ByteArray.size_append]
  by_cases hb : 9 < v1
  · have hbT := eq_true hb
    have hq : v1.tdiv 10 = v1 / 10 := Int.tdiv_eq_ediv_of_nonneg hp01
    have hr1 : (v1 / 10).tmod 10 = v1 / 10 % 10 := Int.tmod_eq_emod_of_nonneg (by omega)
    have hw9 : IntKind.wrap .u8 (48 + v1 / 10 % 10) = 48 + v1 / 10 % 10 := by simp [IntKind.wrap, IntKind.bits, IntKind.signed]; omega
    have hc1 : (ByteArray.mk #[UInt8.ofNat (48 + v1 / 10 % 10).toNat]).size + r1.size ≤ maxLen := by rw [digB_size]; unfold maxLen; omega
    have hp2 : preB (v1 / 10) ++ (digB (v1 / 10) ++ r1) = D := by rw [← ByteArray.append_assoc, ← pre_big _ (by omega), hp11]
    repeat' first
      | ((apply W.byteStr; decide; exact Tryz.underlying84; exact Tryz.underlying5; exact Tryz.underlying9); (iterate 2 (simp (disch := omega) only [push_cast, simprocAttr, hS1, natNe, List.mem_cons, List.not_mem_nil, TyD.isAgg, Nat.add_assoc, Bool.and_self, Bool.and_true, Bool.true_and, Bool.false_and, Bool.and_false, Bool.not_true, Bool.not_false, Bool.false_eq_true, hbT, hq, hr1, hw9, hc1, hfr1] <;> rfl)); rfl; omega)
      | apply AW.seq | apply AW.region | apply AW.ret | apply AW.block | apply AW.skip | apply AW.exit | apply AW.scope | apply AW.label | apply AWL.nil
      | ((first | (apply W.step cx_ok; decide) | apply AW.cond); (simp (disch := omega) only [push_cast, simprocAttr, hS1, natNe, List.mem_cons, List.not_mem_nil, TyD.isAgg, Nat.add_assoc, Bool.and_self, Bool.and_true, Bool.true_and, Bool.false_and, Bool.and_false, Bool.not_true, Bool.not_false, Bool.false_eq_true, hbT, hq, hr1, hw9, hc1, hfr1] <;> rfl); all_goals try ((with_reducible intro hI); try first | (cases hI; done) | (simp only [INTS, not_true_eq_false] at hI; try first | (exfalso; omega) | (have hT : True := hI; clear hT hI))))
      | ((first | apply W.ret1 | apply W.end1); (iterate 2 (try (simp (disch := omega) only [push_cast, simprocAttr, hS1, natNe, List.mem_cons, List.not_mem_nil, TyD.isAgg, Nat.add_assoc, Bool.and_self, Bool.and_true, Bool.true_and, Bool.false_and, Bool.and_false, Bool.not_true, Bool.not_false, Bool.false_eq_true, hbT, hq, hr1, hw9, hc1, hfr1] <;> rfl))))

    all_goals (refine ⟨(v1 / 10).toNat, ?_, v1 / 10, digB (v1 / 10) ++ r1, rfl, (by omega), hp2, (by omega), ?_, ?_⟩; (omega); all_goals first | (simp (disch := omega) only [push_cast, simprocAttr, hS1, natNe, List.mem_cons, List.not_mem_nil, TyD.isAgg, Nat.add_assoc, Bool.and_self, Bool.and_true, Bool.true_and, Bool.false_and, Bool.and_false, Bool.not_true, Bool.not_false, Bool.false_eq_true, hbT, hq, hr1, hw9, hc1] <;> first | rfl | omega) | omega)
  · have hbF := eq_false hb
    have hfin : r1 = D := by
      rw [← hp11]; unfold preB; rw [if_pos (by omega)]; exact (empty_app r1).symm
    subst hfin
    repeat' first
      | ((apply W.byteStr; decide; exact Tryz.underlying84; exact Tryz.underlying5; exact Tryz.underlying9); (iterate 2 (simp (disch := omega) only [push_cast, simprocAttr, hS1, natNe, List.mem_cons, List.not_mem_nil, TyD.isAgg, Nat.add_assoc, Bool.and_self, Bool.and_true, Bool.true_and, Bool.false_and, Bool.and_false, Bool.not_true, Bool.not_false, Bool.false_eq_true, hbF] <;> rfl)); rfl; omega)
      | apply AW.seq | apply AW.region | apply AW.ret | apply AW.block | apply AW.skip | apply AW.exit | apply AW.scope | apply AW.label | apply AWL.nil
      | ((first | (apply W.step cx_ok; decide) | apply AW.cond); (simp (disch := omega) only [push_cast, simprocAttr, hS1, natNe, List.mem_cons, List.not_mem_nil, TyD.isAgg, Nat.add_assoc, Bool.and_self, Bool.and_true, Bool.true_and, Bool.false_and, Bool.and_false, Bool.not_true, Bool.not_false, Bool.false_eq_true, hbF] <;> rfl); all_goals try ((with_reducible intro hI); try first | (cases hI; done) | (simp only [INTS, not_true_eq_false] at hI; try first | (exfalso; omega) | (have hT : True := hI; clear hT hI))))
      | ((first | apply W.ret1 | apply W.end1); (iterate 2 (try (simp (disch := omega) only [push_cast, simprocAttr, hS1, natNe, List.mem_cons, List.not_mem_nil, TyD.isAgg, Nat.add_assoc, Bool.and_self, Bool.and_true, Bool.true_and, Bool.false_and, Bool.and_false, Bool.not_true, Bool.not_false, Bool.false_eq_true, hbF] <;> rfl))))

    all_goals (show _ = _; rfl)
end Go.Proofs.Dz
