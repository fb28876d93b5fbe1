/-
  Contracts of functions, proved by going through their code. No conditions.
-/
import Derived.Test.YtdlflcambboojaaSaa
import Derived.Test.YtdlflcambboojaaN11KpM
import Derived.Test.YtdlflcambboojaaN11KuG
import Derived.Test.YtdlflcambboojaaN11KpO0
set_option linter.unusedVariables false
set_option linter.unusedSimpArgs false
set_option maxHeartbeats 8000000
set_option maxRecDepth 10000
namespace Go.Proofs.Ks
open Go Go.Pg Go.Proofs
theorem RNeeded_ok (r : Rec) (n0 : Nat) (hc : checkE r = 0) (hq : consP r [] = true) (hn : n0 < r.strikes.length) : OKv cx 52 [.agg (eRec r), ai n0] (lInt (neF r n0 r.sights.length)) := by
  have hv := checkE_V hc
  have hn1 := hv.nstrikes
  have hn2 := hv.nsights
  have hnl := nodesR_len r []
  have hcast : ((3 + n0 : Nat) : Int) = 3 + (n0 : Int) := by omega
  have c64 := RSpanOf_ok r (3 + n0) hc hq (by omega)
  rw [hcast] at c64
  obtain ⟨S0, hS0'⟩ : ∃ z, ownF r n0 = z := ⟨_, rfl⟩
  have hS0'' : spanF (nodesR r []) (linksR r []) 0 (3 + n0) = S0 := hS0'
  rw [hS0''] at c64
  refine OKat.of_body (rs := [4]) Try.func52 rfl (by decide +kernel) rfl (by simp [Try.ntmps52]) ?_
  simp only [Try.ntmps52]
  repeat' first
    | apply jA | apply jB | apply jC | apply jD | apply jE | apply jF | apply jG | apply jH | apply jI | apply jJ
    | refine W.draw cx_mixed (by decide +kernel) ?_
    | ((first | (apply jK cx_ok; decide) | (apply jL cx_ok; decide; decide) | apply jR); (simp (disch := (first | omega | (simp only [vC]; omega))) only [push_cast, simprocAttr, takeM, dropM, zK, zA, zB, zN, zQ, zR, zO, zP, zT, zS, zU, leT, zH] <;> rfl); all_goals try ((with_reducible intro hI); try first | (cases hI; done) | (simp only [INTS, zL] at hI; try first | (exfalso; omega) | (have hT : True := hI; clear hT hI))))
    | (apply jT cx_ok; decide; rfl; rfl; rfl; decide; (iterate 3 (simp (disch := (first | omega | (simp only [vC]; omega))) only [push_cast, simprocAttr, takeM, dropM, zK, zA, zB, zN, zQ, zR, zO, zP, zT, zS, zU, leT, zH] <;> rfl)); (first | (focus (simp; done)) | (intro c hc; obtain ⟨x, _, rfl⟩ := List.mem_map.1 hc; rfl)); ((first | rfl | simp (disch := omega) only [push_cast])); ((try dsimp only); (try simp only [vC]); omega); ((try dsimp only); (try simp only [vC]); omega))
    | ((first | apply jf | apply jg); (iterate 2 (try (simp (disch := (first | omega | (simp only [vC]; omega))) only [push_cast, simprocAttr, takeM, dropM, zK, zA, zB, zN, zQ, zR, zO, zP, zT, zS, zU, leT, zH] <;> rfl))))

  refine AW.adopt 5 1 3 ?_ ?_
  · (simp (disch := omega) only [push_cast, simprocAttr])
  refine AW.loop (fun n s => ∃ (k : Nat), n = r.sights.length - k ∧ (k ≤ r.sights.length) ∧ 2 ≤ s.nx ∧ s.tm 1 = ai n0 ∧ s.tm 2 = .ptr 0 0 0 1 ∧ s.tm 5 = .ref 1 0 (neF r n0 k).length ∧ s.tm 6 = ai k ∧ Pg.rowAt s.H (0) = some ({ k := 14, es := [eRec r], ty := 30 }) ∧ Pg.rowAt s.H (1) = some ({ k := 1, es := (neF r n0 k).map eInt, ty := 3, lo := (neF r n0 k).length })) (r.sights.length) ⟨0, rfl, (Nat.zero_le _), ?_, ?_, ?_, ?_, ?_, ?_, ?_⟩ ?_
  iterate 7 (first | (simp (disch := omega) only [push_cast, simprocAttr, natNe, zI, zG, zJ, isEmpty_map, zV, zW, zC, zM, zY, zX, zE, zD, yD, zO, neF, List.range_zero, List.filter_nil] <;> first | rfl | omega) | omega)
  rintro n2 s2 ⟨k2, hn2, hp02, hnl2, hS2⟩
  have hZ2 : (0 : Nat) ≠ s2.nx ∧ s2.nx ≠ (0 : Nat) ∧ (1 : Nat) ≠ s2.nx ∧ s2.nx ≠ (1 : Nat) := by omega
  by_cases hk2 : k2 < r.sights.length
  · have hkI : (k2 : Int) < (r.sights.length : Int) := by omega
    have hun := RUnseen_ok r k2 (by omega)
    have hxl := nodesR_len (unseenR r k2) []
    have hxs : (unseenR r k2).strikes.length = r.strikes.length := rfl
    have c64b := RSpanOf_ok (unseenR r k2) (3 + n0) (unseen_zero hc k2) (unseen_cons hc hq k2) (by omega)
    rw [hcast] at c64b
    have hsu := neF_succ r n0 k2
    have hnl2 := neF_len r n0 k2
    obtain ⟨S1, hS1⟩ : ∃ z, lessF r n0 k2 = z := ⟨_, rfl⟩
    have hS1' : spanF (nodesR (unseenR r k2) []) (linksR (unseenR r k2) []) 0 (3 + n0) = S1 := hS1
    rw [hS1'] at c64b
    rw [hS1, hS0'] at hsu
    obtain ⟨R2, hR2⟩ : ∃ z, unseenR r k2 = z := ⟨_, rfl⟩
    have hfl : flatA (.agg (eRec R2)) = false := rfl
    rw [hR2] at hun c64b
    have hEq := spanEq S1 S0
    obtain ⟨B, hB⟩ : ∃ z, decide (S1 = S0) = z := ⟨_, rfl⟩
    have hsu2 : neF r n0 (k2 + 1) = neF r n0 k2 ++ (if B = true then [] else [(k2 : Int)]) := by
      rw [hsu, ← hB]
      by_cases hsp : S1 = S0 <;> simp [hsp]
    rw [hB] at hEq
    clear hsu hB
    cases B <;> simp only [zM, ite_false, ite_true, zZ] at hsu2
    all_goals
      repeat' first
        | apply jA | apply jB | apply jC | apply jD | apply jE | apply jF | apply jG | apply jH | apply jI | apply jJ
        | refine AW.draw (id := 5) cx_mixed [] [] [] 0 (by decide +kernel) ?_
        | refine W.draw cx_mixed (by decide +kernel) ?_
        | ((first | (apply jK cx_ok; decide) | (apply jL cx_ok; decide; decide) | apply jR); (simp (maxSteps := 1000000) (disch := (first | omega | (simp only [vC]; omega))) only [push_cast, simprocAttr, takeM, dropM, zK, zA, zB, zN, zQ, zR, zO, zP, zT, zS, zU, leT, zH, hS2, hZ2, hkI, hEq, Bool.not_true, Bool.not_false, natNe, zI, zG, zJ, isEmpty_map, zV, zW, zC, zM, zY, zX, zE, zD, yD, hfl, rowAt_afterH, St.back, idsL, idsA, idsLL, yB, yA] <;> rfl); all_goals try ((with_reducible intro hI); try first | (cases hI; done) | (simp only [INTS, zL] at hI; try first | (exfalso; omega) | (have hT : True := hI; clear hT hI))))
        | ((first | (apply jc cx_ok; decide; decide)); (simp (maxSteps := 1000000) (disch := (first | omega | (simp only [vC]; omega))) only [push_cast, simprocAttr, takeM, dropM, zK, zA, zB, zN, zQ, zR, zO, zP, zT, zS, zU, leT, zH, hS2, hZ2, hkI, hEq, Bool.not_true, Bool.not_false, natNe, zI, zG, zJ, isEmpty_map, zV, zW, zC, zM, zY, zX, zE, zD, yD, hfl, rowAt_afterH, St.back, idsL, idsA, idsLL, yB, yA] <;> rfl))
        | (apply jT cx_ok; decide; rfl; rfl; rfl; decide; (iterate 3 (simp (maxSteps := 1000000) (disch := (first | omega | (simp only [vC]; omega))) only [push_cast, simprocAttr, takeM, dropM, zK, zA, zB, zN, zQ, zR, zO, zP, zT, zS, zU, leT, zH, hS2, hZ2, hkI, hEq, Bool.not_true, Bool.not_false, natNe, zI, zG, zJ, isEmpty_map, zV, zW, zC, zM, zY, zX, zE, zD, yD, hfl, rowAt_afterH, St.back, idsL, idsA, idsLL, yB, yA] <;> rfl)); (first | (focus (simp; done)) | (intro c hc; obtain ⟨x, _, rfl⟩ := List.mem_map.1 hc; rfl)); ((first | rfl | simp (maxSteps := 1000000) (disch := omega) only [push_cast])); ((try dsimp only); (try simp only [vC]); omega); ((try dsimp only); (try simp only [vC]); omega))
        | ((first | (apply jV cx_ok; decide) | (apply jW cx_ok; decide; decide)); (iterate 2 (simp (maxSteps := 1000000) (disch := (first | omega | (simp only [vC]; omega))) only [push_cast, simprocAttr, takeM, dropM, zK, zA, zB, zN, zQ, zR, zO, zP, zT, zS, zU, leT, zH, hS2, hZ2, hkI, hEq, Bool.not_true, Bool.not_false, natNe, zI, zG, zJ, isEmpty_map, zV, zW, zC, zM, zY, zX, zE, zD, yD, hfl, rowAt_afterH, St.back, idsL, idsA, idsLL, yB, yA] <;> rfl)); (with_reducible first | exact hun | exact c64 | exact c64b); try first | rfl | (simp (maxSteps := 1000000) (disch := (first | omega | (simp only [vC]; omega))) only [push_cast, simprocAttr, takeM, dropM, zK, zA, zB, zN, zQ, zR, zO, zP, zT, zS, zU, leT, zH, hS2, hZ2, hkI, hEq, Bool.not_true, Bool.not_false, natNe, zI, zG, zJ, isEmpty_map, zV, zW, zC, zM, zY, zX, zE, zD, yD, hfl, rowAt_afterH, St.back, idsL, idsA, idsLL, yB, yA] <;> rfl))
        | ((first | apply jf | apply jg); (iterate 2 (try (simp (maxSteps := 1000000) (disch := (first | omega | (simp only [vC]; omega))) only [push_cast, simprocAttr, takeM, dropM, zK, zA, zB, zN, zQ, zR, zO, zP, zT, zS, zU, leT, zH, hS2, hZ2, hkI, hEq, Bool.not_true, Bool.not_false, natNe, zI, zG, zJ, isEmpty_map, zV, zW, zC, zM, zY, zX, zE, zD, yD, hfl, rowAt_afterH, St.back, idsL, idsA, idsLL, yB, yA] <;> rfl))))

      all_goals (refine ⟨r.sights.length - (k2 + 1), ?_, k2 + 1, rfl, (by omega), ?_, ?_, ?_, ?_, ?_, ?_, ?_⟩; (omega); all_goals first | (simp (disch := omega) only [push_cast, simprocAttr, hS2, hZ2, hkI, hsu2, natNe, zI, zG, zJ, isEmpty_map, zV, zW, zC, zM, zY, zX, zE, zD, yD, zO, hfl, rowAt_afterH, St.back, idsL, idsA, idsLL, yB, yA] <;> first | rfl | omega) | omega)
  have hkI : ¬ (k2 : Int) < (r.sights.length : Int) := by omega
  have hkS : k2 = r.sights.length := by omega
  subst hkS
  repeat' first
    | apply jA | apply jB | apply jC | apply jD | apply jE | apply jF | apply jG | apply jH | apply jI | apply jJ
    | refine W.draw cx_mixed (by decide +kernel) ?_
    | ((first | (apply jK cx_ok; decide) | (apply jL cx_ok; decide; decide) | apply jR); (simp (disch := (first | omega | (simp only [vC]; omega))) only [push_cast, simprocAttr, takeM, dropM, zK, zA, zB, zN, zQ, zR, zO, zP, zT, zS, zU, leT, zH, hS2, hZ2, hkI, natNe, zI, zG, zJ, isEmpty_map, zV, zW, zC, zM, zY, zX, zE, zD, yD] <;> rfl); all_goals try ((with_reducible intro hI); try first | (cases hI; done) | (simp only [INTS, zL] at hI; try first | (exfalso; omega) | (have hT : True := hI; clear hT hI))))
    | (apply jT cx_ok; decide; rfl; rfl; rfl; decide; (iterate 3 (simp (disch := (first | omega | (simp only [vC]; omega))) only [push_cast, simprocAttr, takeM, dropM, zK, zA, zB, zN, zQ, zR, zO, zP, zT, zS, zU, leT, zH, hS2, hZ2, hkI, natNe, zI, zG, zJ, isEmpty_map, zV, zW, zC, zM, zY, zX, zE, zD, yD] <;> rfl)); (first | (focus (simp; done)) | (intro c hc; obtain ⟨x, _, rfl⟩ := List.mem_map.1 hc; rfl)); ((first | rfl | simp (disch := omega) only [push_cast])); ((try dsimp only); (try simp only [vC]); omega); ((try dsimp only); (try simp only [vC]); omega))
    | ((first | apply jf | apply jg); (iterate 2 (try (simp (disch := (first | omega | (simp only [vC]; omega))) only [push_cast, simprocAttr, takeM, dropM, zK, zA, zB, zN, zQ, zR, zO, zP, zT, zS, zU, leT, zH, hS2, hZ2, hkI, natNe, zI, zG, zJ, isEmpty_map, zV, zW, zC, zM, zY, zX, zE, zD, yD] <;> rfl))))

  all_goals (show _ = _; rfl)
theorem cons30 {r : Rec} (hc : checkE r = 0) : OKv cx 30 [.agg (eRec r)] (ab (consP r [])) := by
  have hv := checkE_V hc
  have h := Consistent_ok r hv
  have e : (tightR r []).isSome = consP r [] := by
    rcases tight_prog hv (more := []) (by decide) nomore with ⟨o, h1, h2, _⟩ | ⟨h1, h2⟩
    · rw [h1, h2]; rfl
    · rw [h1, h2]; rfl
  rwa [e] at h
theorem RSuspects_none (r : Rec) (hc : checkE r = 0) (hq : consP r [] = true) : OKv cx 50 [.agg (eRec r)] (.tup [.lst [], .lst []]) := by
  have c30 := cons30 hc
  rw [hq] at c30
  refine OKat.of_body (rs := [2, 3]) Try.func50 rfl (by decide +kernel) rfl (by simp [Try.ntmps50]) ?_
  simp only [Try.ntmps50]
  repeat' first
    | apply jA | apply jB | apply jC | apply jD | apply jE | apply jF | apply jG | apply jH | apply jI | apply jJ
    | refine W.draw cx_mixed (by decide +kernel) ?_
    | ((first | (apply jK cx_ok; decide) | (apply jL cx_ok; decide; decide) | apply jR); (simp (disch := (first | omega | (simp only [vC]; omega))) only [push_cast, simprocAttr, takeM, dropM, zK, zA, zB, zN, zQ, zR, zO, zP, zT, zS, zU, leT, zH] <;> rfl); all_goals try ((with_reducible intro hI); try first | (cases hI; done) | (simp only [INTS, zL] at hI; try first | (exfalso; omega) | (have hT : True := hI; clear hT hI))))
    | (apply jT cx_ok; decide; rfl; rfl; rfl; decide; (iterate 3 (simp (disch := (first | omega | (simp only [vC]; omega))) only [push_cast, simprocAttr, takeM, dropM, zK, zA, zB, zN, zQ, zR, zO, zP, zT, zS, zU, leT, zH] <;> rfl)); (first | (focus (simp; done)) | (intro c hc; obtain ⟨x, _, rfl⟩ := List.mem_map.1 hc; rfl)); ((first | rfl | simp (disch := omega) only [push_cast])); ((try dsimp only); (try simp only [vC]); omega); ((try dsimp only); (try simp only [vC]); omega))
    | ((first | (apply jV cx_ok; decide) | (apply jW cx_ok; decide; decide)); (iterate 2 (simp (disch := (first | omega | (simp only [vC]; omega))) only [push_cast, simprocAttr, takeM, dropM, zK, zA, zB, zN, zQ, zR, zO, zP, zT, zS, zU, leT, zH] <;> rfl)); (with_reducible first | exact c30); try first | rfl | (simp (disch := (first | omega | (simp only [vC]; omega))) only [push_cast, simprocAttr, takeM, dropM, zK, zA, zB, zN, zQ, zR, zO, zP, zT, zS, zU, leT, zH] <;> rfl))
    | ((first | apply jh | apply ji); (iterate 2 (try (simp (disch := (first | omega | (simp only [vC]; omega))) only [push_cast, simprocAttr, takeM, dropM, zK, zA, zB, zN, zQ, zR, zO, zP, zT, zS, zU, leT, zH] <;> rfl))))

  all_goals (show _ = _; rfl)
theorem RSuspects_some (r : Rec) (hc : checkE r = 0) (hq : consP r [] = false) : OKv cx 50 [.agg (eRec r)] (.tup [lInt (suspP r).1, lInt (suspP r).2]) := by
  have c30 := cons30 hc
  rw [hq] at c30
  have hv := checkE_V hc
  have hn1 := hv.nstrikes
  have hn2 := hv.nsights
  have hn3 := hv.nstops
  rw [← susp_sort hc]
  unfold suspP
  dsimp only
  refine OKat.of_body (rs := [2, 3]) Try.func50 rfl (by decide +kernel) rfl (by simp [Try.ntmps50]) ?_
  simp only [Try.ntmps50]
  repeat' first
    | apply jA | apply jB | apply jC | apply jD | apply jE | apply jF | apply jG | apply jH | apply jI | apply jJ
    | refine W.draw cx_mixed (by decide +kernel) ?_
    | ((first | (apply jK cx_ok; decide) | (apply jL cx_ok; decide; decide) | apply jR); (simp (disch := (first | omega | (simp only [vC]; omega))) only [push_cast, simprocAttr, takeM, dropM, zK, zA, zB, zN, zQ, zR, zO, zP, zT, zS, zU, leT, zH] <;> rfl); all_goals try ((with_reducible intro hI); try first | (cases hI; done) | (simp only [INTS, zL] at hI; try first | (exfalso; omega) | (have hT : True := hI; clear hT hI))))
    | (apply jT cx_ok; decide; rfl; rfl; rfl; decide; (iterate 3 (simp (disch := (first | omega | (simp only [vC]; omega))) only [push_cast, simprocAttr, takeM, dropM, zK, zA, zB, zN, zQ, zR, zO, zP, zT, zS, zU, leT, zH] <;> rfl)); (first | (focus (simp; done)) | (intro c hc; obtain ⟨x, _, rfl⟩ := List.mem_map.1 hc; rfl)); ((first | rfl | simp (disch := omega) only [push_cast])); ((try dsimp only); (try simp only [vC]); omega); ((try dsimp only); (try simp only [vC]); omega))
    | ((first | (apply jV cx_ok; decide) | (apply jW cx_ok; decide; decide)); (iterate 2 (simp (disch := (first | omega | (simp only [vC]; omega))) only [push_cast, simprocAttr, takeM, dropM, zK, zA, zB, zN, zQ, zR, zO, zP, zT, zS, zU, leT, zH] <;> rfl)); (with_reducible first | exact c30); try first | rfl | (simp (disch := (first | omega | (simp only [vC]; omega))) only [push_cast, simprocAttr, takeM, dropM, zK, zA, zB, zN, zQ, zR, zO, zP, zT, zS, zU, leT, zH] <;> rfl))
    | ((first | apply jh | apply ji); (iterate 2 (try (simp (disch := (first | omega | (simp only [vC]; omega))) only [push_cast, simprocAttr, takeM, dropM, zK, zA, zB, zN, zQ, zR, zO, zP, zT, zS, zU, leT, zH] <;> rfl))))

  refine AW.freeze (t := 4) (v := .lst []) (by simp (disch := omega) only [push_cast, simprocAttr] <;> rfl) ?_
  refine AW.adopt 5 1 3 ?_ ?_
  · (simp (disch := omega) only [push_cast, simprocAttr] <;> rfl)
  refine AW.loop (fun n s => ∃ (k : Nat) (rest : List Strike), n = rest.length ∧ (r.strikes.drop k = rest) ∧ (k ≤ r.strikes.length) ∧ ((stF r k).length ≤ k) ∧ 2 ≤ s.nx ∧ s.tm 1 = .ptr 0 0 0 1 ∧ s.tm 4 = lInt (insL (stF r k)) ∧ s.tm 5 = .ref 1 0 0 ∧ s.tm 6 = ai k ∧ Pg.rowAt s.H (0) = some ({ k := 14, es := [eRec r], ty := 30 }) ∧ Pg.rowAt s.H (1) = some ({ k := 1, es := [], ty := 3 })) (r.strikes.length) ⟨0, r.strikes, rfl, rfl, (Nat.zero_le _), (Nat.le_refl _), ?_, ?_, ?_, ?_, ?_, ?_, ?_⟩ ?_
  iterate 7 (first | (simp (disch := omega) only [push_cast, simprocAttr, natNe, zI, zG, zJ, isEmpty_map, zV, zW, zC, zM, zY, zX, zE, zD, yD, zO, idsA, stF, insL, List.foldl_nil, List.take_zero, List.filter_nil, rowAt_frzG] <;> first | rfl | omega) | omega)
  rintro n0 s0 ⟨k0, rest0, hn0, hp00, hp10, hp20, hnl0, hS0⟩
  have hZ0 : (0 : Nat) ≠ s0.nx ∧ s0.nx ≠ (0 : Nat) ∧ (1 : Nat) ≠ s0.nx ∧ s0.nx ≠ (1 : Nat) := by omega
  rcases rest0 with _ | ⟨x, rest0⟩
  rotate_left
  · obtain ⟨hk, hg, hd', hl', hm', hx⟩ := drop_cons hp00 eStrike []
    have hwo : OKv cx 39 [.agg (eRec r), .lst [[ai x.id]]] (.agg (eRec (withoutR r [x.id]))) := RWithout_ok r [x.id] (by simp) (by omega) (by omega)
    have hcd := cons30 (without_zero hc [x.id])
    have hsu := stF_succ hp00
    have hil := insL_len (stF r k0)
    have hins := insert_ok (insL (stF r k0)) x.id (by omega)
    rw [← insL_snoc] at hins
    obtain ⟨R2, hR2⟩ : ∃ z, withoutR r [x.id] = z := ⟨_, rfl⟩
    have hfl : flatA (.agg (eRec R2)) = false := rfl
    rw [hR2] at hwo hcd hsu
    obtain ⟨B, hB⟩ : ∃ z, consP R2 [] = z := ⟨_, rfl⟩
    rw [hB] at hcd hsu
    cases B <;> simp only [zM, ite_false, ite_true, zZ] at hsu
    all_goals
      repeat' first
        | ((apply D.buildL cx_ok; decide; decide); (iterate 3 (simp (maxSteps := 1000000) (disch := (first | omega | (simp only [vC, List.length_range]; omega))) only [push_cast, simprocAttr, takeM, dropM, zK, zA, zB, zN, zQ, zR, zO, zP, zT, zS, zU, leT, zH, natNe, zI, zG, zJ, hS0, hZ0, hk, hg, hx, isEmpty_map, zV, zW, zC, zM, zY, zX, zE, zD, yD, hfl, rowAt_afterH, St.back, idsL, idsA, idsLL, yB, yA, pur, ite_true] <;> rfl)); exact Nat.zero_le _)
        | apply jA | apply jB | apply jC | apply jD | apply jE | apply jF | apply jG | apply jH | apply jI | apply jJ
        | refine AW.draw (id := 8) cx_mixed [] [7] [] 0 (by decide +kernel) ?_
        | refine W.draw cx_mixed (by decide +kernel) ?_
        | ((first | (apply jK cx_ok; decide) | (apply jL cx_ok; decide; decide) | apply jR); (simp (maxSteps := 1000000) (disch := (first | omega | (simp only [vC, List.length_range]; omega))) only [push_cast, simprocAttr, takeM, dropM, zK, zA, zB, zN, zQ, zR, zO, zP, zT, zS, zU, leT, zH, natNe, zI, zG, zJ, hS0, hZ0, hk, hg, hx, isEmpty_map, zV, zW, zC, zM, zY, zX, zE, zD, yD, hfl, rowAt_afterH, St.back, idsL, idsA, idsLL, yB, yA] <;> rfl); all_goals try ((with_reducible intro hI); try first | (cases hI; done) | (simp only [INTS, zL] at hI; try first | (exfalso; omega) | (have hT : True := hI; clear hT hI))))
        | ((first | (apply jc cx_ok; decide; decide)); (simp (maxSteps := 1000000) (disch := (first | omega | (simp only [vC, List.length_range]; omega))) only [push_cast, simprocAttr, takeM, dropM, zK, zA, zB, zN, zQ, zR, zO, zP, zT, zS, zU, leT, zH, natNe, zI, zG, zJ, hS0, hZ0, hk, hg, hx, isEmpty_map, zV, zW, zC, zM, zY, zX, zE, zD, yD, hfl, rowAt_afterH, St.back, idsL, idsA, idsLL, yB, yA] <;> rfl))
        | (apply jT cx_ok; decide; rfl; rfl; rfl; decide; (iterate 3 (simp (maxSteps := 1000000) (disch := (first | omega | (simp only [vC, List.length_range]; omega))) only [push_cast, simprocAttr, takeM, dropM, zK, zA, zB, zN, zQ, zR, zO, zP, zT, zS, zU, leT, zH, natNe, zI, zG, zJ, hS0, hZ0, hk, hg, hx, isEmpty_map, zV, zW, zC, zM, zY, zX, zE, zD, yD, hfl, rowAt_afterH, St.back, idsL, idsA, idsLL, yB, yA] <;> rfl)); (first | (focus (simp; done)) | (intro c hc; obtain ⟨x, _, rfl⟩ := List.mem_map.1 hc; rfl)); ((first | rfl | simp (maxSteps := 1000000) (disch := omega) only [push_cast])); ((try dsimp only); (try simp only [vC, List.length_range]); omega); ((try dsimp only); (try simp only [vC, List.length_range]); omega))
        | ((first | (apply jV cx_ok; decide) | (apply jW cx_ok; decide; decide)); (iterate 2 (simp (maxSteps := 1000000) (disch := (first | omega | (simp only [vC, List.length_range]; omega))) only [push_cast, simprocAttr, takeM, dropM, zK, zA, zB, zN, zQ, zR, zO, zP, zT, zS, zU, leT, zH, natNe, zI, zG, zJ, hS0, hZ0, hk, hg, hx, isEmpty_map, zV, zW, zC, zM, zY, zX, zE, zD, yD, hfl, rowAt_afterH, St.back, idsL, idsA, idsLL, yB, yA] <;> rfl)); (with_reducible first | exact hwo | exact hcd | exact hins); try first | rfl | (simp (maxSteps := 1000000) (disch := (first | omega | (simp only [vC, List.length_range]; omega))) only [push_cast, simprocAttr, takeM, dropM, zK, zA, zB, zN, zQ, zR, zO, zP, zT, zS, zU, leT, zH, natNe, zI, zG, zJ, hS0, hZ0, hk, hg, hx, isEmpty_map, zV, zW, zC, zM, zY, zX, zE, zD, yD, hfl, rowAt_afterH, St.back, idsL, idsA, idsLL, yB, yA] <;> rfl))

      all_goals (refine ⟨rest0.length, ?_, k0 + 1, rest0, rfl, hd', (by omega), (by rw [hsu]; (try rw [List.length_append, List.length_singleton]); omega), ?_, ?_, ?_, ?_, ?_, ?_, ?_⟩; ((simp only [zD] at *; omega)); all_goals first | (simp (disch := omega) only [push_cast, simprocAttr, hS0, hZ0, hk, hg, hx, hsu, natNe, zI, zG, zJ, isEmpty_map, zV, zW, zC, zM, zY, zX, zE, zD, yD, zO, hfl, rowAt_afterH, St.back, idsL, idsA, idsLL, yB, yA] <;> first | rfl | omega) | omega)
  have hk := drop_nil hp00
  have hkS : k0 = r.strikes.length := by have := List.drop_eq_nil_iff.1 hp00; omega
  subst hkS
  obtain ⟨SL, hSL⟩ : ∃ z, insL (stF r r.strikes.length) = z := ⟨_, rfl⟩
  rw [hSL] at hS0 ⊢
  repeat' first
    | apply jA | apply jB | apply jC | apply jD | apply jE | apply jF | apply jG | apply jH | apply jI | apply jJ
    | refine W.draw cx_mixed (by decide +kernel) ?_
    | ((first | (apply jK cx_ok; decide) | (apply jL cx_ok; decide; decide) | apply jR); (simp (disch := (first | omega | (simp only [vC]; omega))) only [push_cast, simprocAttr, takeM, dropM, zK, zA, zB, zN, zQ, zR, zO, zP, zT, zS, zU, leT, zH, hS0, hZ0, hk, natNe, zI, zG, zJ, isEmpty_map, zV, zW, zC, zM, zY, zX, zE, zD, yD] <;> rfl); all_goals try ((with_reducible intro hI); try first | (cases hI; done) | (simp only [INTS, zL] at hI; try first | (exfalso; omega) | (have hT : True := hI; clear hT hI))))
    | (apply jT cx_ok; decide; rfl; rfl; rfl; decide; (iterate 3 (simp (disch := (first | omega | (simp only [vC]; omega))) only [push_cast, simprocAttr, takeM, dropM, zK, zA, zB, zN, zQ, zR, zO, zP, zT, zS, zU, leT, zH, hS0, hZ0, hk, natNe, zI, zG, zJ, isEmpty_map, zV, zW, zC, zM, zY, zX, zE, zD, yD] <;> rfl)); (first | (focus (simp; done)) | (intro c hc; obtain ⟨x, _, rfl⟩ := List.mem_map.1 hc; rfl)); ((first | rfl | simp (disch := omega) only [push_cast])); ((try dsimp only); (try simp only [vC]); omega); ((try dsimp only); (try simp only [vC]); omega))
    | ((first | apply jh | apply ji); (iterate 2 (try (simp (disch := (first | omega | (simp only [vC]; omega))) only [push_cast, simprocAttr, takeM, dropM, zK, zA, zB, zN, zQ, zR, zO, zP, zT, zS, zU, leT, zH, hS0, hZ0, hk, natNe, zI, zG, zJ, isEmpty_map, zV, zW, zC, zM, zY, zX, zE, zD, yD] <;> rfl))))

  refine AW.loop (fun n s => ∃ (k : Nat), n = r.sights.length - k ∧ (k ≤ r.sights.length) ∧ ((sgF r k).length ≤ k) ∧ 2 ≤ s.nx ∧ s.tm 1 = .ptr 0 0 0 1 ∧ s.tm 4 = lInt SL ∧ s.tm 5 = .ref 1 0 (sgF r k).length ∧ s.tm 7 = ai k ∧ Pg.rowAt s.H (0) = some ({ k := 14, es := [eRec r], ty := 30 }) ∧ Pg.rowAt s.H (1) = some ({ k := 1, es := (sgF r k).map eInt, ty := 3, lo := (sgF r k).length })) (r.sights.length) ⟨0, rfl, (Nat.zero_le _), (Nat.le_refl _), ?_, ?_, ?_, ?_, ?_, ?_, ?_⟩ ?_
  iterate 7 (first | (simp (disch := omega) only [push_cast, simprocAttr, hS0, hk, sgF, List.range_zero, List.filter_nil, natNe, zI, zG, zJ, isEmpty_map, zV, zW, zC, zM, zY, zX, zE, zD, yD, zO] <;> first | rfl | omega) | omega)
  rintro n2 s2 ⟨k2, hn2, hp02, hp12, hnl2, hS2⟩
  have hZ2 : (0 : Nat) ≠ s2.nx ∧ s2.nx ≠ (0 : Nat) ∧ (1 : Nat) ≠ s2.nx ∧ s2.nx ≠ (1 : Nat) := by omega
  by_cases hk2 : k2 < r.sights.length
  · have hkI : (k2 : Int) < (r.sights.length : Int) := by omega
    have hun := RUnseen_ok r k2 (by omega)
    have hcd := cons30 (unseen_zero hc k2)
    have hsu := sgF_succ r k2
    obtain ⟨R2, hR2⟩ : ∃ z, unseenR r k2 = z := ⟨_, rfl⟩
    have hfl : flatA (.agg (eRec R2)) = false := rfl
    rw [hR2] at hun hcd hsu
    obtain ⟨B, hB⟩ : ∃ z, consP R2 [] = z := ⟨_, rfl⟩
    rw [hB] at hcd hsu
    cases B <;> simp only [zM, ite_false, ite_true, zZ] at hsu
    all_goals
      repeat' first
        | apply jA | apply jB | apply jC | apply jD | apply jE | apply jF | apply jG | apply jH | apply jI | apply jJ
        | refine W.draw cx_mixed (by decide +kernel) ?_
        | ((first | (apply jK cx_ok; decide) | (apply jL cx_ok; decide; decide) | apply jR); (simp (disch := (first | omega | (simp only [vC]; omega))) only [push_cast, simprocAttr, takeM, dropM, zK, zA, zB, zN, zQ, zR, zO, zP, zT, zS, zU, leT, zH, hS2, hZ2, hkI, natNe, zI, zG, zJ, isEmpty_map, zV, zW, zC, zM, zY, zX, zE, zD, yD, hfl, rowAt_afterH, St.back, idsL, idsA, idsLL, yB, yA] <;> rfl); all_goals try ((with_reducible intro hI); try first | (cases hI; done) | (simp only [INTS, zL] at hI; try first | (exfalso; omega) | (have hT : True := hI; clear hT hI))))
        | (apply jT cx_ok; decide; rfl; rfl; rfl; decide; (iterate 3 (simp (disch := (first | omega | (simp only [vC]; omega))) only [push_cast, simprocAttr, takeM, dropM, zK, zA, zB, zN, zQ, zR, zO, zP, zT, zS, zU, leT, zH, hS2, hZ2, hkI, natNe, zI, zG, zJ, isEmpty_map, zV, zW, zC, zM, zY, zX, zE, zD, yD, hfl, rowAt_afterH, St.back, idsL, idsA, idsLL, yB, yA] <;> rfl)); (first | (focus (simp; done)) | (intro c hc; obtain ⟨x, _, rfl⟩ := List.mem_map.1 hc; rfl)); ((first | rfl | simp (disch := omega) only [push_cast])); ((try dsimp only); (try simp only [vC]); omega); ((try dsimp only); (try simp only [vC]); omega))
        | ((first | (apply jV cx_ok; decide) | (apply jW cx_ok; decide; decide)); (iterate 2 (simp (disch := (first | omega | (simp only [vC]; omega))) only [push_cast, simprocAttr, takeM, dropM, zK, zA, zB, zN, zQ, zR, zO, zP, zT, zS, zU, leT, zH, hS2, hZ2, hkI, natNe, zI, zG, zJ, isEmpty_map, zV, zW, zC, zM, zY, zX, zE, zD, yD, hfl, rowAt_afterH, St.back, idsL, idsA, idsLL, yB, yA] <;> rfl)); (with_reducible first | exact hun | exact hcd); try first | rfl | (simp (disch := (first | omega | (simp only [vC]; omega))) only [push_cast, simprocAttr, takeM, dropM, zK, zA, zB, zN, zQ, zR, zO, zP, zT, zS, zU, leT, zH, hS2, hZ2, hkI, natNe, zI, zG, zJ, isEmpty_map, zV, zW, zC, zM, zY, zX, zE, zD, yD, hfl, rowAt_afterH, St.back, idsL, idsA, idsLL, yB, yA] <;> rfl))
        | ((first | apply jh | apply ji); (iterate 2 (try (simp (disch := (first | omega | (simp only [vC]; omega))) only [push_cast, simprocAttr, takeM, dropM, zK, zA, zB, zN, zQ, zR, zO, zP, zT, zS, zU, leT, zH, hS2, hZ2, hkI, natNe, zI, zG, zJ, isEmpty_map, zV, zW, zC, zM, zY, zX, zE, zD, yD, hfl, rowAt_afterH, St.back, idsL, idsA, idsLL, yB, yA] <;> rfl))))

      all_goals (refine ⟨r.sights.length - (k2 + 1), ?_, k2 + 1, rfl, (by omega), (by rw [hsu]; (try rw [List.length_append, List.length_singleton]); omega), ?_, ?_, ?_, ?_, ?_, ?_, ?_⟩; (omega); all_goals first | (simp (disch := omega) only [push_cast, simprocAttr, hS2, hZ2, hkI, hsu, natNe, zI, zG, zJ, isEmpty_map, zV, zW, zC, zM, zY, zX, zE, zD, yD, zO, hfl, rowAt_afterH, St.back, idsL, idsA, idsLL, yB, yA] <;> first | rfl | omega) | omega)
  have hkI : ¬ (k2 : Int) < (r.sights.length : Int) := by omega
  have hkS : k2 = r.sights.length := by omega
  subst hkS
  repeat' first
    | apply jA | apply jB | apply jC | apply jD | apply jE | apply jF | apply jG | apply jH | apply jI | apply jJ
    | refine W.draw cx_mixed (by decide +kernel) ?_
    | ((first | (apply jK cx_ok; decide) | (apply jL cx_ok; decide; decide) | apply jR); (simp (disch := (first | omega | (simp only [vC]; omega))) only [push_cast, simprocAttr, takeM, dropM, zK, zA, zB, zN, zQ, zR, zO, zP, zT, zS, zU, leT, zH, hS2, hZ2, hkI, natNe, zI, zG, zJ, isEmpty_map, zV, zW, zC, zM, zY, zX, zE, zD, yD] <;> rfl); all_goals try ((with_reducible intro hI); try first | (cases hI; done) | (simp only [INTS, zL] at hI; try first | (exfalso; omega) | (have hT : True := hI; clear hT hI))))
    | (apply jT cx_ok; decide; rfl; rfl; rfl; decide; (iterate 3 (simp (disch := (first | omega | (simp only [vC]; omega))) only [push_cast, simprocAttr, takeM, dropM, zK, zA, zB, zN, zQ, zR, zO, zP, zT, zS, zU, leT, zH, hS2, hZ2, hkI, natNe, zI, zG, zJ, isEmpty_map, zV, zW, zC, zM, zY, zX, zE, zD, yD] <;> rfl)); (first | (focus (simp; done)) | (intro c hc; obtain ⟨x, _, rfl⟩ := List.mem_map.1 hc; rfl)); ((first | rfl | simp (disch := omega) only [push_cast])); ((try dsimp only); (try simp only [vC]); omega); ((try dsimp only); (try simp only [vC]); omega))
    | ((first | apply jh | apply ji); (iterate 2 (try (simp (disch := (first | omega | (simp only [vC]; omega))) only [push_cast, simprocAttr, takeM, dropM, zK, zA, zB, zN, zQ, zR, zO, zP, zT, zS, zU, leT, zH, hS2, hZ2, hkI, natNe, zI, zG, zJ, isEmpty_map, zV, zW, zC, zM, zY, zX, zE, zD, yD] <;> rfl))))

  all_goals (show _ = _; rfl)
end Go.Proofs.Ks
