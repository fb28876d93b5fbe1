/-
  Contracts of functions, proved by going through their code. No conditions.
-/
import Derived.Test.YtkdiplkmcilkmaaGreatDoorTam
set_option linter.unusedVariables false
set_option linter.unusedSimpArgs false
set_option maxHeartbeats 8000000
set_option maxRecDepth 10000
namespace Go.Proofs.Dz
open Go Go.Pg Go.Proofs Go.Proofs.Ds
theorem grown_ok (x : Arc) (n : Int) (hv : validA x = true) (hn : 0 ≤ n ∧ n ≤ 43200) : OKv cx 39 [.agg (eArc x), ai n] (.agg (eArc (wideF x n))) := by
  obtain ⟨v1, v2, v3, v4, v5⟩ := validA_iff.1 hv
  have c3 := Angle_ok (x.from_ - n)
  unfold wideF
  by_cases hg : 43200 ≤ n
  · rw [if_pos (by omega)]
    refine OKat.of_bodyM cx_ok (rs := [.cell 4 24]) Tryz.func39 rfl (by decide +kernel) rfl (by simp [Tryz.ntmps39]) ?_
    simp only [Tryz.ntmps39]
    repeat' first
      | apply AW.seq | apply AW.region | apply AW.ret | apply AW.block | apply AW.skip | apply AW.exit | apply AW.scope | apply AW.label | apply AWL.nil | apply D.nil
      | refine W.draw cx_mixed (by decide +kernel) ?_
      | ((first | (apply W.step cx_ok; decide) | (apply D.step cx_ok; decide; decide) | apply W.store cx_ok | (apply W.gS; rfl; decide) | (apply D.gS; rfl; decide; decide) | apply AW.cond); (simp (disch := omega) only [push_cast, simprocAttr, Bool.and_self, Bool.and_true, Bool.true_and, Bool.false_and, Bool.and_false, Bool.not_true, Bool.not_false, Bool.false_eq_true, hg] <;> rfl); all_goals try ((with_reducible intro hI); try first | (cases hI; done) | (simp only [INTS, not_true_eq_false] at hI; try first | (exfalso; omega) | (have hT : True := hI; clear hT hI))))
      | ((first | (apply W.callv cx_ok; decide) | (apply D.callv cx_ok; decide; decide)); (iterate 2 (simp (disch := omega) only [push_cast, simprocAttr, Bool.and_self, Bool.and_true, Bool.true_and, Bool.false_and, Bool.and_false, Bool.not_true, Bool.not_false, Bool.false_eq_true, hg] <;> rfl)); (with_reducible first | exact c3); try first | rfl | (simp (disch := omega) only [push_cast, simprocAttr, Bool.and_self, Bool.and_true, Bool.true_and, Bool.false_and, Bool.and_false, Bool.not_true, Bool.not_false, Bool.false_eq_true, hg] <;> rfl))
      | ((first | apply W.retM | apply W.endM'); (iterate 2 (try (simp (disch := omega) only [push_cast, simprocAttr, Bool.and_self, Bool.and_true, Bool.true_and, Bool.false_and, Bool.and_false, Bool.not_true, Bool.not_false, Bool.false_eq_true, hg] <;> rfl))))

    all_goals (show _ = _; rfl)
  by_cases hl : 43199 ≤ x.len + 2 * n
  · rw [if_pos hl]
    refine OKat.of_bodyM cx_ok (rs := [.cell 4 24]) Tryz.func39 rfl (by decide +kernel) rfl (by simp [Tryz.ntmps39]) ?_
    simp only [Tryz.ntmps39]
    repeat' first
      | apply AW.seq | apply AW.region | apply AW.ret | apply AW.block | apply AW.skip | apply AW.exit | apply AW.scope | apply AW.label | apply AWL.nil | apply D.nil
      | refine W.draw cx_mixed (by decide +kernel) ?_
      | ((first | (apply W.step cx_ok; decide) | (apply D.step cx_ok; decide; decide) | apply W.store cx_ok | (apply W.gS; rfl; decide) | (apply D.gS; rfl; decide; decide) | apply AW.cond); (simp (disch := omega) only [push_cast, simprocAttr, Bool.and_self, Bool.and_true, Bool.true_and, Bool.false_and, Bool.and_false, Bool.not_true, Bool.not_false, Bool.false_eq_true, hl, hg] <;> rfl); all_goals try ((with_reducible intro hI); try first | (cases hI; done) | (simp only [INTS, not_true_eq_false] at hI; try first | (exfalso; omega) | (have hT : True := hI; clear hT hI))))
      | ((first | (apply W.callv cx_ok; decide) | (apply D.callv cx_ok; decide; decide)); (iterate 2 (simp (disch := omega) only [push_cast, simprocAttr, Bool.and_self, Bool.and_true, Bool.true_and, Bool.false_and, Bool.and_false, Bool.not_true, Bool.not_false, Bool.false_eq_true, hl, hg] <;> rfl)); (with_reducible first | exact c3); try first | rfl | (simp (disch := omega) only [push_cast, simprocAttr, Bool.and_self, Bool.and_true, Bool.true_and, Bool.false_and, Bool.and_false, Bool.not_true, Bool.not_false, Bool.false_eq_true, hl, hg] <;> rfl))
      | ((first | apply W.retM | apply W.endM'); (iterate 2 (try (simp (disch := omega) only [push_cast, simprocAttr, Bool.and_self, Bool.and_true, Bool.true_and, Bool.false_and, Bool.and_false, Bool.not_true, Bool.not_false, Bool.false_eq_true, hl, hg] <;> rfl))))

    all_goals (show _ = _; rfl)
  · rw [if_neg hl]
    refine OKat.of_bodyM cx_ok (rs := [.cell 4 24]) Tryz.func39 rfl (by decide +kernel) rfl (by simp [Tryz.ntmps39]) ?_
    simp only [Tryz.ntmps39]
    repeat' first
      | apply AW.seq | apply AW.region | apply AW.ret | apply AW.block | apply AW.skip | apply AW.exit | apply AW.scope | apply AW.label | apply AWL.nil | apply D.nil
      | refine AW.draw (id := 3) cx_mixed [11] [] [1] 0 (by decide +kernel) ?_
      | refine W.draw cx_mixed (by decide +kernel) ?_
      | ((first | (apply W.step cx_ok; decide) | (apply D.step cx_ok; decide; decide) | apply W.store cx_ok | (apply W.gS; rfl; decide) | (apply D.gS; rfl; decide; decide) | apply AW.cond); (simp (disch := omega) only [push_cast, simprocAttr, Bool.and_self, Bool.and_true, Bool.true_and, Bool.false_and, Bool.and_false, Bool.not_true, Bool.not_false, Bool.false_eq_true, hl, hg] <;> rfl); all_goals try ((with_reducible intro hI); try first | (cases hI; done) | (simp only [INTS, not_true_eq_false] at hI; try first | (exfalso; omega) | (have hT : True := hI; clear hT hI))))
      | ((first | (apply D.store cx_ok; decide) | (apply D.stept cx_ok; decide; decide) | (apply D.stepm cx_ok; decide; decide)); (simp (disch := omega) only [push_cast, simprocAttr, Bool.and_self, Bool.and_true, Bool.true_and, Bool.false_and, Bool.and_false, Bool.not_true, Bool.not_false, Bool.false_eq_true, hl, hg] <;> rfl); try first | exact .inl rfl | exact .inr (by simp))
      | ((apply D.alloct cx_ok; decide; decide); (simp (disch := omega) only [push_cast, simprocAttr, Bool.and_self, Bool.and_true, Bool.true_and, Bool.false_and, Bool.and_false, Bool.not_true, Bool.not_false, Bool.false_eq_true, hl, hg] <;> rfl); first | exact .inl rfl | exact .inr (by simp))
      | ((first | (apply W.callv cx_ok; decide) | (apply D.callv cx_ok; decide; decide) | (apply D.callvt cx_ok; decide; decide)); (iterate 2 (simp (disch := omega) only [push_cast, simprocAttr, Bool.and_self, Bool.and_true, Bool.true_and, Bool.false_and, Bool.and_false, Bool.not_true, Bool.not_false, Bool.false_eq_true, hl, hg] <;> rfl)); (with_reducible first | exact c3); try first | rfl | (simp (disch := omega) only [push_cast, simprocAttr, Bool.and_self, Bool.and_true, Bool.true_and, Bool.false_and, Bool.and_false, Bool.not_true, Bool.not_false, Bool.false_eq_true, hl, hg] <;> rfl))
      | ((first | apply W.retM | apply W.endM'); (iterate 2 (try (simp (disch := omega) only [push_cast, simprocAttr, Bool.and_self, Bool.and_true, Bool.true_and, Bool.false_and, Bool.and_false, Bool.not_true, Bool.not_false, Bool.false_eq_true, hl, hg] <;> rfl))))

    all_goals (show _ = _; rfl)
theorem pins_ok (n : Int) : OKv cx 67 [ai n] (ab (inF n 0 4095)) := by
  refine OKat.of_body (rs := [2]) Tryz.func67 rfl (by decide +kernel) rfl (by simp [Tryz.ntmps67]) ?_
  simp only [Tryz.ntmps67]
  repeat' first
    | apply AW.seq | apply AW.region | apply AW.ret | apply AW.block | apply AW.skip | apply AW.exit | apply AW.scope | apply AW.label | apply AWL.nil
    | ((first | (apply W.step cx_ok; decide) | (apply W.gS; rfl; decide) | apply AW.cond); (simp (disch := omega) only [push_cast, simprocAttr, Bool.and_self, Bool.and_true, Bool.true_and, Bool.false_and, Bool.and_false, Bool.not_true, Bool.not_false, Bool.false_eq_true] <;> rfl); all_goals try ((with_reducible intro hI); try first | (cases hI; done) | (simp only [INTS, not_true_eq_false] at hI; try first | (exfalso; omega) | (have hT : True := hI; clear hT hI))))
    | ((first | apply W.ret1 | apply W.end1); (iterate 2 (try (simp (disch := omega) only [push_cast, simprocAttr, Bool.and_self, Bool.and_true, Bool.true_and, Bool.false_and, Bool.and_false, Bool.not_true, Bool.not_false, Bool.false_eq_true] <;> rfl))))

  all_goals (first | (show _ = _; rfl) | (refine congrArg (fun b => ab b) ?_; rw [Bool.eq_iff_iff]; unfold inF; simp only [beq_iff_eq, bne_iff_ne, ne_eq, Bool.and_eq_true, Bool.or_eq_true, Bool.not_eq_true, decide_eq_true_eq, decide_eq_false_iff_not, Bool.false_eq_true, eq_self, true_iff, false_iff, iff_true, iff_false, and_true, true_and, and_false, false_and, or_false, false_or, or_true, true_or, not_true_eq_false, not_false_eq_true]; omega))
theorem Rpins_ok (n : Int) : OKv cx 45 [ai n] (ab (inF n 0 4095)) := by
  have c1 := In_ok n 0 4095
  refine OKat.of_body (rs := [2]) Tryz.func45 rfl (by decide +kernel) rfl (by simp [Tryz.ntmps45]) ?_
  simp only [Tryz.ntmps45]
  repeat' first
    | apply AW.seq | apply AW.region | apply AW.ret | apply AW.block | apply AW.skip | apply AW.exit | apply AW.scope | apply AW.label | apply AWL.nil
    | ((first | (apply W.step cx_ok; decide) | apply AW.cond); (simp (disch := omega) only [push_cast, simprocAttr] <;> rfl); all_goals try ((with_reducible intro hI); try first | (cases hI; done) | (simp only [INTS, not_true_eq_false] at hI; try first | (exfalso; omega) | (have hT : True := hI; clear hT hI))))
    | ((apply W.callv cx_ok; decide); (iterate 2 (simp (disch := omega) only [push_cast, simprocAttr] <;> rfl)); (with_reducible first | exact c1); try first | rfl | (simp (disch := omega) only [push_cast, simprocAttr] <;> rfl))
    | ((first | apply W.ret1 | apply W.end1); (iterate 2 (try (simp (disch := omega) only [push_cast, simprocAttr] <;> rfl))))

  all_goals (show _ = _; rfl)
def keyV (k : Key) : Bool := inF k.id 1 1099511627776 && inF k.track 0 3 && inF k.pat 1 4095
theorem inF_iff {n lo hi : Int} : inF n lo hi = true ↔ lo ≤ n ∧ n ≤ hi := by unfold inF; simp only [Bool.and_eq_true, decide_eq_true_eq]
theorem keyV_iff {k : Key} : keyV k = true ↔ (1 ≤ k.id ∧ k.id ≤ 1099511627776) ∧ (0 ≤ k.track ∧ k.track ≤ 3) ∧ 1 ≤ k.pat ∧ k.pat ≤ 4095 := by
  unfold keyV
  rw [Bool.and_eq_true, Bool.and_eq_true, inF_iff, inF_iff, inF_iff, and_assoc]
theorem CheckKey_ok (k : Key) : OKv cx 38 [.agg (eKey k)] (ai (if keyV k = true then 0 else 1)) := by
  have c1 := pins_ok k.pat
  by_cases hp : 0 ≤ k.pat ∧ k.pat ≤ 4095
  · rw [show inF k.pat 0 4095 = true from inF_iff.2 hp] at c1
    refine OKat.of_body (rs := [2]) Tryz.func38 rfl (by decide +kernel) rfl (by simp [Tryz.ntmps38]) ?_
    simp only [Tryz.ntmps38]
    repeat' first
      | apply AW.seq | apply AW.region | apply AW.ret | apply AW.block | apply AW.skip | apply AW.exit | apply AW.scope | apply AW.label | apply AWL.nil
      | ((first | (apply W.step cx_ok; decide) | (apply W.gS; rfl; decide) | apply AW.cond); (simp (disch := omega) only [push_cast, simprocAttr, Bool.and_self, Bool.and_true, Bool.true_and, Bool.false_and, Bool.and_false, Bool.not_true, Bool.not_false, Bool.false_eq_true] <;> rfl); all_goals try ((with_reducible intro hI); try first | (cases hI; done) | (simp only [INTS, not_true_eq_false] at hI; try first | (exfalso; omega) | (have hT : True := hI; clear hT hI))))
      | ((apply W.callv cx_ok; decide); (iterate 2 (simp (disch := omega) only [push_cast, simprocAttr, Bool.and_self, Bool.and_true, Bool.true_and, Bool.false_and, Bool.and_false, Bool.not_true, Bool.not_false, Bool.false_eq_true] <;> rfl)); (with_reducible first | exact c1); try first | rfl | (simp (disch := omega) only [push_cast, simprocAttr, Bool.and_self, Bool.and_true, Bool.true_and, Bool.false_and, Bool.and_false, Bool.not_true, Bool.not_false, Bool.false_eq_true] <;> rfl))
      | ((first | apply W.ret1 | apply W.end1); (iterate 2 (try (simp (disch := omega) only [push_cast, simprocAttr, Bool.and_self, Bool.and_true, Bool.true_and, Bool.false_and, Bool.and_false, Bool.not_true, Bool.not_false, Bool.false_eq_true] <;> rfl))))

    all_goals (show _ = _; first | (rw [if_pos (keyV_iff.2 (by omega))]) | (rw [if_neg (fun h => by have := keyV_iff.1 h; omega)]))
  · rw [show inF k.pat 0 4095 = false from Bool.eq_false_iff.2 fun h => hp (inF_iff.1 h)] at c1
    refine OKat.of_body (rs := [2]) Tryz.func38 rfl (by decide +kernel) rfl (by simp [Tryz.ntmps38]) ?_
    simp only [Tryz.ntmps38]
    repeat' first
      | apply AW.seq | apply AW.region | apply AW.ret | apply AW.block | apply AW.skip | apply AW.exit | apply AW.scope | apply AW.label | apply AWL.nil
      | ((first | (apply W.step cx_ok; decide) | (apply W.gS; rfl; decide) | apply AW.cond); (simp (disch := omega) only [push_cast, simprocAttr, Bool.and_self, Bool.and_true, Bool.true_and, Bool.false_and, Bool.and_false, Bool.not_true, Bool.not_false, Bool.false_eq_true] <;> rfl); all_goals try ((with_reducible intro hI); try first | (cases hI; done) | (simp only [INTS, not_true_eq_false] at hI; try first | (exfalso; omega) | (have hT : True := hI; clear hT hI))))
      | ((apply W.callv cx_ok; decide); (iterate 2 (simp (disch := omega) only [push_cast, simprocAttr, Bool.and_self, Bool.and_true, Bool.true_and, Bool.false_and, Bool.and_false, Bool.not_true, Bool.not_false, Bool.false_eq_true] <;> rfl)); (with_reducible first | exact c1); try first | rfl | (simp (disch := omega) only [push_cast, simprocAttr, Bool.and_self, Bool.and_true, Bool.true_and, Bool.false_and, Bool.and_false, Bool.not_true, Bool.not_false, Bool.false_eq_true] <;> rfl))
      | ((first | apply W.ret1 | apply W.end1); (iterate 2 (try (simp (disch := omega) only [push_cast, simprocAttr, Bool.and_self, Bool.and_true, Bool.true_and, Bool.false_and, Bool.and_false, Bool.not_true, Bool.not_false, Bool.false_eq_true] <;> rfl))))

    all_goals (show _ = _; first | (rw [if_pos (keyV_iff.2 (by omega))]) | (rw [if_neg (fun h => by have := keyV_iff.1 h; omega)]))
def inkV (i : Ink) : Bool := inF i.faint 0 4 && inF i.stray 0 4 && inF i.slip 0 600
theorem inkV_iff {i : Ink} : inkV i = true ↔ (0 ≤ i.faint ∧ i.faint ≤ 4) ∧ (0 ≤ i.stray ∧ i.stray ≤ 4) ∧ 0 ≤ i.slip ∧ i.slip ≤ 600 := by
  unfold inkV
  rw [Bool.and_eq_true, Bool.and_eq_true, inF_iff, inF_iff, inF_iff, and_assoc]
theorem CheckInk_ok (i : Ink) : OKv cx 36 [.agg (eInk i)] (ai (if inkV i = true then 0 else 1)) := by
  refine OKat.of_body (rs := [2]) Tryz.func36 rfl (by decide +kernel) rfl (by simp [Tryz.ntmps36]) ?_
  simp only [Tryz.ntmps36]
  repeat' first
    | apply AW.seq | apply AW.region | apply AW.ret | apply AW.block | apply AW.skip | apply AW.exit | apply AW.scope | apply AW.label | apply AWL.nil
    | ((first | (apply W.step cx_ok; decide) | (apply W.gS; rfl; decide) | apply AW.cond); (simp (disch := omega) only [push_cast, simprocAttr, Bool.and_self, Bool.and_true, Bool.true_and, Bool.false_and, Bool.and_false, Bool.not_true, Bool.not_false, Bool.false_eq_true] <;> rfl); all_goals try ((with_reducible intro hI); try first | (cases hI; done) | (simp only [INTS, not_true_eq_false] at hI; try first | (exfalso; omega) | (have hT : True := hI; clear hT hI))))
    | ((first | apply W.ret1 | apply W.end1); (iterate 2 (try (simp (disch := omega) only [push_cast, simprocAttr, Bool.and_self, Bool.and_true, Bool.true_and, Bool.false_and, Bool.and_false, Bool.not_true, Bool.not_false, Bool.false_eq_true] <;> rfl))))

  all_goals (show _ = _; first | (rw [if_pos (inkV_iff.2 (by omega))]) | (rw [if_neg (fun h => by have := inkV_iff.1 h; omega)]))
theorem andI {p q : Nat} (hp : p < 4611686018427387904) (hq : q < 4611686018427387904) : IntKind.wrap .i64 ((BitVec.ofInt (IntKind.bits .i64) (p : Int) &&& BitVec.ofInt (IntKind.bits .i64) (q : Int)).toNat : Int) = ((p &&& q : Nat) : Int) := andB hp hq
theorem orI {p q : Nat} (hp : p < 4611686018427387904) (hq : q < 4611686018427387904) : IntKind.wrap .i64 ((BitVec.ofInt (IntKind.bits .i64) (p : Int) ||| BitVec.ofInt (IntKind.bits .i64) (q : Int)).toNat : Int) = ((p ||| q : Nat) : Int) := orB hp hq
theorem andNotI {p q : Nat} (hp : p < 4611686018427387904) (hq : q < 4611686018427387904) : IntKind.wrap .i64 ((BitVec.ofInt (IntKind.bits .i64) (p : Int) &&& ~~~ BitVec.ofInt (IntKind.bits .i64) (q : Int)).toNat : Int) = ((dropB p q : Nat) : Int) := andNotB hp hq
theorem bitI {p : Nat} (hp : p < 4611686018427387904) (k : Nat) (hk : k < 64) : IntKind.wrap .i64 ((BitVec.ofInt (IntKind.bits .i64) ((p : Int).fdiv (2 ^ (min k (IntKind.bits .i64)))) &&& BitVec.ofInt (IntKind.bits .i64) 1).toNat : Int) = ((if p.testBit k = true then 1 else 0 : Nat) : Int) := by
  rw [← bit_eq]; exact bitB hp k hk
theorem cnt_step (p k : Nat) : ((cntK p k : Nat) : Int) + ((if p.testBit k = true then 1 else 0 : Nat) : Int) = ((cntK p (k + 1) : Nat) : Int) := by
  rw [cntK]; omega
theorem count_ok (p : Nat) (hp : p < 4611686018427387904) : OKv cx 89 [ai p] (ai (cntF p)) := by
  refine OKat.of_body (rs := [2]) Tryz.func89 rfl (by decide +kernel) rfl (by simp [Tryz.ntmps89]) ?_
  simp only [Tryz.ntmps89]
  repeat' first
    | apply AW.seq | apply AW.region | apply AW.ret | apply AW.block | apply AW.skip | apply AW.exit | apply AW.scope | apply AW.label | apply AWL.nil
    | ((first | (apply W.step cx_ok; decide) | apply AW.cond); (simp (disch := omega) only [push_cast, simprocAttr] <;> rfl); all_goals try ((with_reducible intro hI); try first | (cases hI; done) | (simp only [INTS, not_true_eq_false] at hI; try first | (exfalso; omega) | (have hT : True := hI; clear hT hI))))
    | ((first | apply W.ret1 | apply W.end1); (iterate 2 (try (simp (disch := omega) only [push_cast, simprocAttr] <;> rfl))))

  refine AW.loop (fun n s => ∃ (k : Nat), n = 12 - k ∧ (k ≤ 12) ∧ s.tm 0 = ai p ∧ s.tm 3 = ai (cntK p k) ∧ s.tm 5 = ai k) (12) ⟨0, rfl, (by omega), ?_, ?_, ?_⟩ ?_
  iterate 3 (first | (simp (disch := omega) only [push_cast, simprocAttr, cntK] <;> first | rfl | omega) | omega)
  rintro n s ⟨k, hn, hp0, hS⟩
  by_cases hk : k < 12
  · have hkI : (k : Int) < 12 := by omega
    have hb := bitI hp k (by omega)
    have hs := cnt_step p k
    have hle := cntK_le p (k + 1)
    repeat' first
      | apply AW.seq | apply AW.region | apply AW.ret | apply AW.block | apply AW.skip | apply AW.exit | apply AW.scope | apply AW.label | apply AWL.nil
      | ((first | (apply W.step cx_ok; decide) | apply AW.cond); (simp (disch := omega) only [push_cast, simprocAttr, hS, hkI, hb, hs] <;> rfl); all_goals try ((with_reducible intro hI); try first | (cases hI; done) | (simp only [INTS, not_true_eq_false] at hI; try first | (exfalso; omega) | (have hT : True := hI; clear hT hI))))
      | ((first | apply W.ret1 | apply W.end1); (iterate 2 (try (simp (disch := omega) only [push_cast, simprocAttr, hS, hkI, hb, hs] <;> rfl))))

    all_goals (refine ⟨12 - (k + 1), ?_, k + 1, rfl, (by omega), ?_, ?_, ?_⟩; (omega); all_goals first | (simp (disch := omega) only [push_cast, simprocAttr, hS, hkI, hb, hs] <;> first | rfl | omega) | omega)
  have hkI : ¬ (k : Int) < 12 := by omega
  have hkS : k = 12 := by omega
  subst hkS
  repeat' first
    | apply AW.seq | apply AW.region | apply AW.ret | apply AW.block | apply AW.skip | apply AW.exit | apply AW.scope | apply AW.label | apply AWL.nil
    | ((first | (apply W.step cx_ok; decide) | apply AW.cond); (simp (disch := omega) only [push_cast, simprocAttr, hS, hkI] <;> rfl); all_goals try ((with_reducible intro hI); try first | (cases hI; done) | (simp only [INTS, not_true_eq_false] at hI; try first | (exfalso; omega) | (have hT : True := hI; clear hT hI))))
    | ((first | apply W.ret1 | apply W.end1); (iterate 2 (try (simp (disch := omega) only [push_cast, simprocAttr, hS, hkI] <;> rfl))))

  all_goals (show _ = _; rfl)
end Go.Proofs.Dz
