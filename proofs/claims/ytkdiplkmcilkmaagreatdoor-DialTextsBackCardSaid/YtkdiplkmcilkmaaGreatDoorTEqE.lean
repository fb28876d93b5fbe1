/-
  Contracts of functions, proved by going through their code. No conditions.
-/
import Derived.Test.YtkdiplkmcilkmaaGreatDoorTba
import Derived.Test.YtkdiplkmcilkmaaGreatDoorTEqC
import Derived.Test.YtkdiplkmcilkmaaGreatDoorTEtD
set_option linter.unusedVariables false
set_option linter.unusedSimpArgs false
set_option maxHeartbeats 8000000
set_option maxRecDepth 10000
namespace Go.Proofs.Dz
open Go Go.Pg Go.Proofs Go.Proofs.Ds Go.Tx
theorem RNumber_ok (s0 : ByteArray) (at0 : Nat) (hs : s0.size ≤ 1099511627776) (ha : at0 ≤ 1099511627790) : OKv cx 82 [at_ s0, ai at0] (.tup [ai (numR s0 at0).1, ai (numR s0 at0).2]) := by
  obtain ⟨NR, hNR⟩ : ∃ z, numR s0 at0 = z := ⟨_, rfl⟩
  rw [hNR]
  unfold numR at hNR
  obtain ⟨RR, hRR⟩ : ∃ z, digG (bl s0) 5 at0 0 = z := ⟨_, rfl⟩
  rw [hRR] at hNR
  refine OKat.of_body (rs := [4, 5]) Tryz.func82 rfl (by decide +kernel) rfl (by simp [Tryz.ntmps82]) ?_
  simp only [Tryz.ntmps82]
  repeat' first
    | apply AW.seq | apply AW.region | apply AW.ret | apply AW.block | apply AW.skip | apply AW.exit | apply AW.scope | apply AW.label | apply AWL.nil
    | ((first | (apply W.step cx_ok; decide) | (apply W.gS; rfl; decide) | apply AW.cond); (simp (disch := omega) only [push_cast, simprocAttr, natNe, List.mem_cons, List.not_mem_nil, TyD.isAgg, Nat.add_assoc, Bool.and_self, Bool.and_true, Bool.true_and, Bool.false_and, Bool.and_false, Bool.not_true, Bool.not_false, Bool.false_eq_true] <;> rfl); all_goals try ((with_reducible intro hI); try first | (cases hI; done) | (simp only [INTS, not_true_eq_false] at hI; try first | (exfalso; omega) | (have hT : True := hI; clear hT hI))))
    | ((first | apply W.ret2 | apply W.end2); (iterate 2 (try (simp (disch := omega) only [push_cast, simprocAttr, natNe, List.mem_cons, List.not_mem_nil, TyD.isAgg, Nat.add_assoc, Bool.and_self, Bool.and_true, Bool.true_and, Bool.false_and, Bool.and_false, Bool.not_true, Bool.not_false, Bool.false_eq_true] <;> rfl))))

  refine AW.loop (fun n s => ∃ (k a v : Nat), n = k ∧ (digG (bl s0) k a v = RR) ∧ (a + k = at0 + 5) ∧ (v < 10 ^ (5 - k) ∧ k ≤ 5) ∧ (a ≤ 2199023255552) ∧ s.tm 0 = at_ s0 ∧ s.tm 1 = ai a ∧ s.tm 6 = ai v ∧ s.tm 7 = ai at0) (5) ⟨5, at0, 0, rfl, hRR, (by omega), (by omega), (by omega), ?_, ?_, ?_, ?_⟩ ?_
  iterate 4 (first | (simp (disch := omega) only [push_cast, simprocAttr, natNe, List.mem_cons, List.not_mem_nil, TyD.isAgg, Nat.add_assoc, Bool.and_self, Bool.and_true, Bool.true_and, Bool.false_and, Bool.and_false, Bool.not_true, Bool.not_false, Bool.false_eq_true] <;> first | rfl | omega) | omega)
  rintro n1 s1 ⟨k1, a1, v1, hn1, hp01, hp11, hp21, hp31, hS1⟩
  have hbl := bl_len s0
  by_cases hlt : a1 < s0.size
  rotate_left
  · have hltF : ((a1 : Int) < (s0.size : Int)) = False := eq_false (by omega)
    have hR : RR = (v1, a1) := by rw [← hp01]; cases k1 with | zero => rfl | succ k => rw [digG, if_neg (fun h => hlt (by omega))]
    rw [hR] at hNR
    dsimp only at hNR
    by_cases he : a1 = at0
    · have heT : ((a1 : Int) = (at0 : Int)) = True := eq_true (by omega)
      have heB : ((a1 : Int) == (at0 : Int)) = true := by rw [beq_iff_eq]; omega
      rw [if_pos he] at hNR
      subst hNR
      repeat' first
        | apply AW.seq | apply AW.region | apply AW.ret | apply AW.block | apply AW.skip | apply AW.exit | apply AW.scope | apply AW.label | apply AWL.nil
        | ((first | (apply W.step cx_ok; decide) | (apply W.gS; rfl; decide) | apply AW.cond); (simp (disch := omega) only [push_cast, simprocAttr, hS1, natNe, List.mem_cons, List.not_mem_nil, TyD.isAgg, Nat.add_assoc, Bool.and_self, Bool.and_true, Bool.true_and, Bool.false_and, Bool.and_false, Bool.not_true, Bool.not_false, Bool.false_eq_true, hltF, heT, heB] <;> rfl); all_goals try ((with_reducible intro hI); try first | (cases hI; done) | (simp only [INTS, not_true_eq_false] at hI; try first | (exfalso; omega) | (have hT : True := hI; clear hT hI))))
        | ((first | apply W.ret2 | apply W.end2); (iterate 2 (try (simp (disch := omega) only [push_cast, simprocAttr, hS1, natNe, List.mem_cons, List.not_mem_nil, TyD.isAgg, Nat.add_assoc, Bool.and_self, Bool.and_true, Bool.true_and, Bool.false_and, Bool.and_false, Bool.not_true, Bool.not_false, Bool.false_eq_true, hltF, heT, heB] <;> rfl))))

      all_goals (show _ = _; rw [he])
    · have heT : ((a1 : Int) = (at0 : Int)) = False := eq_false (by omega)
      have heB : ((a1 : Int) == (at0 : Int)) = false := by rw [beq_eq_false_iff_ne]; omega
      rw [if_neg he] at hNR
      subst hNR
      repeat' first
        | apply AW.seq | apply AW.region | apply AW.ret | apply AW.block | apply AW.skip | apply AW.exit | apply AW.scope | apply AW.label | apply AWL.nil
        | ((first | (apply W.step cx_ok; decide) | (apply W.gS; rfl; decide) | apply AW.cond); (simp (disch := omega) only [push_cast, simprocAttr, hS1, natNe, List.mem_cons, List.not_mem_nil, TyD.isAgg, Nat.add_assoc, Bool.and_self, Bool.and_true, Bool.true_and, Bool.false_and, Bool.and_false, Bool.not_true, Bool.not_false, Bool.false_eq_true, hltF, heT, heB] <;> rfl); all_goals try ((with_reducible intro hI); try first | (cases hI; done) | (simp only [INTS, not_true_eq_false] at hI; try first | (exfalso; omega) | (have hT : True := hI; clear hT hI))))
        | ((first | apply W.ret2 | apply W.end2); (iterate 2 (try (simp (disch := omega) only [push_cast, simprocAttr, hS1, natNe, List.mem_cons, List.not_mem_nil, TyD.isAgg, Nat.add_assoc, Bool.and_self, Bool.and_true, Bool.true_and, Bool.false_and, Bool.and_false, Bool.not_true, Bool.not_false, Bool.false_eq_true, hltF, heT, heB] <;> rfl))))

      all_goals (show _ = _; rfl)
  have hltT : ((a1 : Int) < (s0.size : Int)) = True := eq_true (by omega)
  obtain ⟨x, hx⟩ : ∃ z, s0.data.toList.getD a1 0 = z := ⟨_, rfl⟩
  have hx' : (bl s0).getD a1 0 = x := hx
  have hx256 : x.toNat < 256 := x.toNat_lt
  by_cases hlo : 48 ≤ x.toNat
  rotate_left
  · have hloF : ((48 : Int) ≤ (x.toNat : Int)) = False := eq_false (by omega)
    have hR : RR = (v1, a1) := by rw [← hp01]; cases k1 with | zero => rfl | succ k => rw [digG, hx', if_neg (fun h => hlo h.2.1)]
    rw [hR] at hNR
    dsimp only at hNR
    by_cases he : a1 = at0
    · have heT : ((a1 : Int) = (at0 : Int)) = True := eq_true (by omega)
      have heB : ((a1 : Int) == (at0 : Int)) = true := by rw [beq_iff_eq]; omega
      rw [if_pos he] at hNR
      subst hNR
      repeat' first
        | apply AW.seq | apply AW.region | apply AW.ret | apply AW.block | apply AW.skip | apply AW.exit | apply AW.scope | apply AW.label | apply AWL.nil
        | ((first | (apply W.step cx_ok; decide) | (apply W.gS; rfl; decide) | apply AW.cond); (simp (disch := omega) only [push_cast, simprocAttr, hS1, natNe, List.mem_cons, List.not_mem_nil, TyD.isAgg, Nat.add_assoc, Bool.and_self, Bool.and_true, Bool.true_and, Bool.false_and, Bool.and_false, Bool.not_true, Bool.not_false, Bool.false_eq_true, hltT, hx, hloF, heT, heB] <;> rfl); all_goals try ((with_reducible intro hI); try first | (cases hI; done) | (simp only [INTS, not_true_eq_false] at hI; try first | (exfalso; omega) | (have hT : True := hI; clear hT hI))))
        | ((first | apply W.ret2 | apply W.end2); (iterate 2 (try (simp (disch := omega) only [push_cast, simprocAttr, hS1, natNe, List.mem_cons, List.not_mem_nil, TyD.isAgg, Nat.add_assoc, Bool.and_self, Bool.and_true, Bool.true_and, Bool.false_and, Bool.and_false, Bool.not_true, Bool.not_false, Bool.false_eq_true, hltT, hx, hloF, heT, heB] <;> rfl))))

      all_goals (show _ = _; rw [he])
    · have heT : ((a1 : Int) = (at0 : Int)) = False := eq_false (by omega)
      have heB : ((a1 : Int) == (at0 : Int)) = false := by rw [beq_eq_false_iff_ne]; omega
      rw [if_neg he] at hNR
      subst hNR
      repeat' first
        | apply AW.seq | apply AW.region | apply AW.ret | apply AW.block | apply AW.skip | apply AW.exit | apply AW.scope | apply AW.label | apply AWL.nil
        | ((first | (apply W.step cx_ok; decide) | (apply W.gS; rfl; decide) | apply AW.cond); (simp (disch := omega) only [push_cast, simprocAttr, hS1, natNe, List.mem_cons, List.not_mem_nil, TyD.isAgg, Nat.add_assoc, Bool.and_self, Bool.and_true, Bool.true_and, Bool.false_and, Bool.and_false, Bool.not_true, Bool.not_false, Bool.false_eq_true, hltT, hx, hloF, heT, heB] <;> rfl); all_goals try ((with_reducible intro hI); try first | (cases hI; done) | (simp only [INTS, not_true_eq_false] at hI; try first | (exfalso; omega) | (have hT : True := hI; clear hT hI))))
        | ((first | apply W.ret2 | apply W.end2); (iterate 2 (try (simp (disch := omega) only [push_cast, simprocAttr, hS1, natNe, List.mem_cons, List.not_mem_nil, TyD.isAgg, Nat.add_assoc, Bool.and_self, Bool.and_true, Bool.true_and, Bool.false_and, Bool.and_false, Bool.not_true, Bool.not_false, Bool.false_eq_true, hltT, hx, hloF, heT, heB] <;> rfl))))

      all_goals (show _ = _; rfl)
  have hloT : ((48 : Int) ≤ (x.toNat : Int)) = True := eq_true (by omega)
  by_cases hhi : x.toNat ≤ 57
  rotate_left
  · have hhiF : ((x.toNat : Int) ≤ (57 : Int)) = False := eq_false (by omega)
    have hR : RR = (v1, a1) := by rw [← hp01]; cases k1 with | zero => rfl | succ k => rw [digG, hx', if_neg (fun h => hhi h.2.2)]
    rw [hR] at hNR
    dsimp only at hNR
    by_cases he : a1 = at0
    · have heT : ((a1 : Int) = (at0 : Int)) = True := eq_true (by omega)
      have heB : ((a1 : Int) == (at0 : Int)) = true := by rw [beq_iff_eq]; omega
      rw [if_pos he] at hNR
      subst hNR
      repeat' first
        | apply AW.seq | apply AW.region | apply AW.ret | apply AW.block | apply AW.skip | apply AW.exit | apply AW.scope | apply AW.label | apply AWL.nil
        | ((first | (apply W.step cx_ok; decide) | (apply W.gS; rfl; decide) | apply AW.cond); (simp (disch := omega) only [push_cast, simprocAttr, hS1, natNe, List.mem_cons, List.not_mem_nil, TyD.isAgg, Nat.add_assoc, Bool.and_self, Bool.and_true, Bool.true_and, Bool.false_and, Bool.and_false, Bool.not_true, Bool.not_false, Bool.false_eq_true, hltT, hx, hloT, hhiF, heT, heB] <;> rfl); all_goals try ((with_reducible intro hI); try first | (cases hI; done) | (simp only [INTS, not_true_eq_false] at hI; try first | (exfalso; omega) | (have hT : True := hI; clear hT hI))))
        | ((first | apply W.ret2 | apply W.end2); (iterate 2 (try (simp (disch := omega) only [push_cast, simprocAttr, hS1, natNe, List.mem_cons, List.not_mem_nil, TyD.isAgg, Nat.add_assoc, Bool.and_self, Bool.and_true, Bool.true_and, Bool.false_and, Bool.and_false, Bool.not_true, Bool.not_false, Bool.false_eq_true, hltT, hx, hloT, hhiF, heT, heB] <;> rfl))))

      all_goals (show _ = _; rw [he])
    · have heT : ((a1 : Int) = (at0 : Int)) = False := eq_false (by omega)
      have heB : ((a1 : Int) == (at0 : Int)) = false := by rw [beq_eq_false_iff_ne]; omega
      rw [if_neg he] at hNR
      subst hNR
      repeat' first
        | apply AW.seq | apply AW.region | apply AW.ret | apply AW.block | apply AW.skip | apply AW.exit | apply AW.scope | apply AW.label | apply AWL.nil
        | ((first | (apply W.step cx_ok; decide) | (apply W.gS; rfl; decide) | apply AW.cond); (simp (disch := omega) only [push_cast, simprocAttr, hS1, natNe, List.mem_cons, List.not_mem_nil, TyD.isAgg, Nat.add_assoc, Bool.and_self, Bool.and_true, Bool.true_and, Bool.false_and, Bool.and_false, Bool.not_true, Bool.not_false, Bool.false_eq_true, hltT, hx, hloT, hhiF, heT, heB] <;> rfl); all_goals try ((with_reducible intro hI); try first | (cases hI; done) | (simp only [INTS, not_true_eq_false] at hI; try first | (exfalso; omega) | (have hT : True := hI; clear hT hI))))
        | ((first | apply W.ret2 | apply W.end2); (iterate 2 (try (simp (disch := omega) only [push_cast, simprocAttr, hS1, natNe, List.mem_cons, List.not_mem_nil, TyD.isAgg, Nat.add_assoc, Bool.and_self, Bool.and_true, Bool.true_and, Bool.false_and, Bool.and_false, Bool.not_true, Bool.not_false, Bool.false_eq_true, hltT, hx, hloT, hhiF, heT, heB] <;> rfl))))

      all_goals (show _ = _; rfl)
  have hhiT : ((x.toNat : Int) ≤ (57 : Int)) = True := eq_true (by omega)
  rcases k1 with _ | k1
  · have hkF : ((a1 : Int) - (at0 : Int) < 5) = False := eq_false (by omega)
    have hR : RR = (v1, a1) := by rw [← hp01]; rfl
    rw [hR] at hNR
    dsimp only at hNR
    by_cases he : a1 = at0
    · have heT : ((a1 : Int) = (at0 : Int)) = True := eq_true (by omega)
      have heB : ((a1 : Int) == (at0 : Int)) = true := by rw [beq_iff_eq]; omega
      rw [if_pos he] at hNR
      subst hNR
      repeat' first
        | apply AW.seq | apply AW.region | apply AW.ret | apply AW.block | apply AW.skip | apply AW.exit | apply AW.scope | apply AW.label | apply AWL.nil
        | ((first | (apply W.step cx_ok; decide) | (apply W.gS; rfl; decide) | apply AW.cond); (simp (disch := omega) only [push_cast, simprocAttr, hS1, natNe, List.mem_cons, List.not_mem_nil, TyD.isAgg, Nat.add_assoc, Bool.and_self, Bool.and_true, Bool.true_and, Bool.false_and, Bool.and_false, Bool.not_true, Bool.not_false, Bool.false_eq_true, hltT, hx, hloT, hhiT, hkF, heT, heB] <;> rfl); all_goals try ((with_reducible intro hI); try first | (cases hI; done) | (simp only [INTS, not_true_eq_false] at hI; try first | (exfalso; omega) | (have hT : True := hI; clear hT hI))))
        | ((first | apply W.ret2 | apply W.end2); (iterate 2 (try (simp (disch := omega) only [push_cast, simprocAttr, hS1, natNe, List.mem_cons, List.not_mem_nil, TyD.isAgg, Nat.add_assoc, Bool.and_self, Bool.and_true, Bool.true_and, Bool.false_and, Bool.and_false, Bool.not_true, Bool.not_false, Bool.false_eq_true, hltT, hx, hloT, hhiT, hkF, heT, heB] <;> rfl))))

      all_goals (show _ = _; rw [he])
    · have heT : ((a1 : Int) = (at0 : Int)) = False := eq_false (by omega)
      have heB : ((a1 : Int) == (at0 : Int)) = false := by rw [beq_eq_false_iff_ne]; omega
      rw [if_neg he] at hNR
      subst hNR
      repeat' first
        | apply AW.seq | apply AW.region | apply AW.ret | apply AW.block | apply AW.skip | apply AW.exit | apply AW.scope | apply AW.label | apply AWL.nil
        | ((first | (apply W.step cx_ok; decide) | (apply W.gS; rfl; decide) | apply AW.cond); (simp (disch := omega) only [push_cast, simprocAttr, hS1, natNe, List.mem_cons, List.not_mem_nil, TyD.isAgg, Nat.add_assoc, Bool.and_self, Bool.and_true, Bool.true_and, Bool.false_and, Bool.and_false, Bool.not_true, Bool.not_false, Bool.false_eq_true, hltT, hx, hloT, hhiT, hkF, heT, heB] <;> rfl); all_goals try ((with_reducible intro hI); try first | (cases hI; done) | (simp only [INTS, not_true_eq_false] at hI; try first | (exfalso; omega) | (have hT : True := hI; clear hT hI))))
        | ((first | apply W.ret2 | apply W.end2); (iterate 2 (try (simp (disch := omega) only [push_cast, simprocAttr, hS1, natNe, List.mem_cons, List.not_mem_nil, TyD.isAgg, Nat.add_assoc, Bool.and_self, Bool.and_true, Bool.true_and, Bool.false_and, Bool.and_false, Bool.not_true, Bool.not_false, Bool.false_eq_true, hltT, hx, hloT, hhiT, hkF, heT, heB] <;> rfl))))

      all_goals (show _ = _; rfl)
  have hkT : ((a1 : Int) - (at0 : Int) < 5) = True := eq_true (by omega)
  have hq : 10 ^ (5 - (k1 + 1)) ≤ 10000 := by
    calc 10 ^ (5 - (k1 + 1)) ≤ 10 ^ 4 := Nat.pow_le_pow_right (by decide) (by omega)
      _ = 10000 := rfl
  have hpw : 10 ^ (5 - k1) = 10 * 10 ^ (5 - (k1 + 1)) := by rw [show 5 - k1 = 5 - (k1 + 1) + 1 by omega, Nat.pow_succ, Nat.mul_comm]
  rw [digG, hx', if_pos ⟨by omega, hlo, hhi⟩] at hp01
  obtain ⟨V, hV⟩ : ∃ z, 10 * v1 + (x.toNat - 48) = z := ⟨_, rfl⟩
  rw [hV] at hp01
  have hw8 : IntKind.wrap .u8 ((x.toNat : Int) - 48) = (x.toNat : Int) - 48 := by simp [IntKind.wrap, IntKind.bits, IntKind.signed]; omega
  have hVI : 10 * (v1 : Int) + ((x.toNat : Int) - 48) = (V : Int) := by omega
  repeat' first
    | apply AW.seq | apply AW.region | apply AW.ret | apply AW.block | apply AW.skip | apply AW.exit | apply AW.scope | apply AW.label | apply AWL.nil
    | ((first | (apply W.step cx_ok; decide) | (apply W.gS; rfl; decide) | apply AW.cond); (simp (disch := omega) only [push_cast, simprocAttr, hS1, natNe, List.mem_cons, List.not_mem_nil, TyD.isAgg, Nat.add_assoc, Bool.and_self, Bool.and_true, Bool.true_and, Bool.false_and, Bool.and_false, Bool.not_true, Bool.not_false, Bool.false_eq_true, hltT, hx, hloT, hhiT, hkT, hw8, hVI] <;> rfl); all_goals try ((with_reducible intro hI); try first | (cases hI; done) | (simp only [INTS, not_true_eq_false] at hI; try first | (exfalso; omega) | (have hT : True := hI; clear hT hI))))
    | ((first | apply W.ret2 | apply W.end2); (iterate 2 (try (simp (disch := omega) only [push_cast, simprocAttr, hS1, natNe, List.mem_cons, List.not_mem_nil, TyD.isAgg, Nat.add_assoc, Bool.and_self, Bool.and_true, Bool.true_and, Bool.false_and, Bool.and_false, Bool.not_true, Bool.not_false, Bool.false_eq_true, hltT, hx, hloT, hhiT, hkT, hw8, hVI] <;> rfl))))

  all_goals (refine ⟨k1, ?_, k1, a1 + 1, V, rfl, hp01, (by omega), (by omega), (by omega), ?_, ?_, ?_, ?_⟩; (omega); all_goals first | (simp (disch := omega) only [push_cast, simprocAttr, hS1, hltT, hx, hloT, hhiT, hkT, hw8, hVI, natNe, List.mem_cons, List.not_mem_nil, TyD.isAgg, Nat.add_assoc, Bool.and_self, Bool.and_true, Bool.true_and, Bool.false_and, Bool.and_false, Bool.not_true, Bool.not_false, Bool.false_eq_true] <;> first | rfl | omega) | omega)
theorem SameMarks_same (l : List Mark) (hl : l.length ≤ 1099511627776) : OKv cx 26 [lMark l, lMark l] (ab true) := by
  refine OKat.of_body (rs := [4]) Tryz.func26 rfl (by decide +kernel) rfl (by simp [Tryz.ntmps26]) ?_
  simp only [Tryz.ntmps26]
  repeat' first
    | apply AW.seq | apply AW.region | apply AW.ret | apply AW.block | apply AW.skip | apply AW.exit | apply AW.scope | apply AW.label | apply AWL.nil | apply D.nil
    | refine W.draw cx_mixed (by decide +kernel) ?_
    | ((first | (apply W.step cx_ok; decide) | (apply D.step cx_ok; decide; decide) | apply AW.cond); (simp (disch := omega) only [push_cast, simprocAttr, natNe, List.mem_cons, List.not_mem_nil, TyD.isAgg, Nat.add_assoc, Bool.and_self, Bool.and_true, Bool.true_and, Bool.false_and, Bool.and_false, Bool.not_true, Bool.not_false, Bool.false_eq_true] <;> rfl); all_goals try ((with_reducible intro hI); try first | (cases hI; done) | (simp only [INTS, not_true_eq_false] at hI; try first | (exfalso; omega) | (have hT : True := hI; clear hT hI))))
    | ((first | apply W.ret1 | apply W.end1); (iterate 2 (try (simp (disch := omega) only [push_cast, simprocAttr, natNe, List.mem_cons, List.not_mem_nil, TyD.isAgg, Nat.add_assoc, Bool.and_self, Bool.and_true, Bool.true_and, Bool.false_and, Bool.and_false, Bool.not_true, Bool.not_false, Bool.false_eq_true] <;> rfl))))

  refine AW.loop (fun n s => ∃ (k : Nat) (rest : List Mark), n = rest.length ∧ (l.drop k = rest) ∧ (k ≤ l.length) ∧ s.tm 0 = lMark l ∧ s.tm 1 = lMark l ∧ s.tm 5 = ai k) (l.length) ⟨0, l, rfl, rfl, (Nat.zero_le _), ?_, ?_, ?_⟩ ?_
  iterate 3 (first | (simp (disch := omega) only [push_cast, simprocAttr, natNe, List.mem_cons, List.not_mem_nil, TyD.isAgg, Nat.add_assoc, Bool.and_self, Bool.and_true, Bool.true_and, Bool.false_and, Bool.and_false, Bool.not_true, Bool.not_false, Bool.false_eq_true] <;> first | rfl | omega) | omega)
  rintro n1 s1 ⟨k1, rest1, hn1, hp01, hp11, hS1⟩
  rcases rest1 with _ | ⟨x, rest1⟩
  · have hk := drop_nil hp01
    repeat' first
      | apply AW.seq | apply AW.region | apply AW.ret | apply AW.block | apply AW.skip | apply AW.exit | apply AW.scope | apply AW.label | apply AWL.nil | apply D.nil
      | refine W.draw cx_mixed (by decide +kernel) ?_
      | ((first | (apply W.step cx_ok; decide) | (apply D.step cx_ok; decide; decide) | apply AW.cond); (simp (disch := omega) only [push_cast, simprocAttr, hS1, natNe, List.mem_cons, List.not_mem_nil, TyD.isAgg, Nat.add_assoc, Bool.and_self, Bool.and_true, Bool.true_and, Bool.false_and, Bool.and_false, Bool.not_true, Bool.not_false, Bool.false_eq_true, hk] <;> rfl); all_goals try ((with_reducible intro hI); try first | (cases hI; done) | (simp only [INTS, not_true_eq_false] at hI; try first | (exfalso; omega) | (have hT : True := hI; clear hT hI))))
      | ((first | apply W.ret1 | apply W.end1); (iterate 2 (try (simp (disch := omega) only [push_cast, simprocAttr, hS1, natNe, List.mem_cons, List.not_mem_nil, TyD.isAgg, Nat.add_assoc, Bool.and_self, Bool.and_true, Bool.true_and, Bool.false_and, Bool.and_false, Bool.not_true, Bool.not_false, Bool.false_eq_true, hk] <;> rfl))))

    all_goals (show _ = _; rfl)
  obtain ⟨hk, hg, hd', hl', hm', hx⟩ := drop_cons hp01 eMark []
  repeat' first
    | ((first | (apply W.neN cx_ok; decide) | (apply D.neN cx_ok; decide; decide)); rfl; rfl; exact E42; (iterate 2 (simp (disch := omega) only [push_cast, simprocAttr, hS1, natNe, List.mem_cons, List.not_mem_nil, TyD.isAgg, Nat.add_assoc, Bool.and_self, Bool.and_true, Bool.true_and, Bool.false_and, Bool.and_false, Bool.not_true, Bool.not_false, Bool.false_eq_true, hk, hg, hx, BEq.rfl, beq_self_eq_true] <;> rfl)); (simp (disch := omega) only [push_cast, simprocAttr, hS1, natNe, List.mem_cons, List.not_mem_nil, TyD.isAgg, Nat.add_assoc, Bool.and_self, Bool.and_true, Bool.true_and, Bool.false_and, Bool.and_false, Bool.not_true, Bool.not_false, Bool.false_eq_true, hk, hg, hx, BEq.rfl, beq_self_eq_true, cellsEqN, cellEqN] <;> rfl))
    | apply AW.seq | apply AW.region | apply AW.ret | apply AW.block | apply AW.skip | apply AW.exit | apply AW.scope | apply AW.label | apply AWL.nil | apply D.nil
    | refine W.draw cx_mixed (by decide +kernel) ?_
    | ((first | (apply W.step cx_ok; decide) | (apply D.step cx_ok; decide; decide) | apply AW.cond); (simp (disch := omega) only [push_cast, simprocAttr, hS1, natNe, List.mem_cons, List.not_mem_nil, TyD.isAgg, Nat.add_assoc, Bool.and_self, Bool.and_true, Bool.true_and, Bool.false_and, Bool.and_false, Bool.not_true, Bool.not_false, Bool.false_eq_true, hk, hg, hx, BEq.rfl, beq_self_eq_true] <;> rfl); all_goals try ((with_reducible intro hI); try first | (cases hI; done) | (simp only [INTS, not_true_eq_false] at hI; try first | (exfalso; omega) | (have hT : True := hI; clear hT hI))))
    | ((first | apply W.ret1 | apply W.end1); (iterate 2 (try (simp (disch := omega) only [push_cast, simprocAttr, hS1, natNe, List.mem_cons, List.not_mem_nil, TyD.isAgg, Nat.add_assoc, Bool.and_self, Bool.and_true, Bool.true_and, Bool.false_and, Bool.and_false, Bool.not_true, Bool.not_false, Bool.false_eq_true, hk, hg, hx, BEq.rfl, beq_self_eq_true] <;> rfl))))

  all_goals (refine ⟨rest1.length, ?_, k1 + 1, rest1, rfl, hd', (by omega), ?_, ?_, ?_⟩; ((simp only [List.length_cons] at *; omega)); all_goals first | (simp (disch := omega) only [push_cast, simprocAttr, hS1, hk, hg, hx, natNe, List.mem_cons, List.not_mem_nil, TyD.isAgg, Nat.add_assoc, Bool.and_self, Bool.and_true, Bool.true_and, Bool.false_and, Bool.and_false, Bool.not_true, Bool.not_false, Bool.false_eq_true] <;> first | rfl | omega) | omega)
end Go.Proofs.Dz
