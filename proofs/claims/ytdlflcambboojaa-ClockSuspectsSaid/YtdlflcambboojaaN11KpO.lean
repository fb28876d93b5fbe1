/-
  Contracts of functions, proved by going through their code. No conditions.
-/
import Derived.Test.YtdlflcambboojaaSaa
import Derived.Test.YtdlflcambboojaaSbd
import Derived.Test.YtdlflcambboojaaN11KpL
import Derived.Test.YtdlflcambboojaaN11KpO0
import Derived.Test.YtdlflcambboojaaN11PkZn
set_option linter.unusedVariables false
set_option linter.unusedSimpArgs false
set_option maxHeartbeats 8000000
set_option maxRecDepth 10000
namespace Go.Proofs.Ks
open Go Go.Pg Go.Proofs
theorem Needed_bad (r : Rec) (n : Int) (hc : checkE r ≠ 0) : OKv cx 49 [.agg (eRec r), ai n] (.tup [.lst [], ai (checkE r)]) := by
  have hcF : (checkE r = 0) = False := eq_false hc
  refine OKat.of_body (rs := [4, 5]) Try.func49 rfl (by decide +kernel) rfl (by simp [Try.ntmps49]) ?_
  simp only [Try.ntmps49]
  repeat' first
    | apply jA | apply jB | apply jC | apply jD | apply jE | apply jF | apply jG | apply jH | apply jI | apply jJ
    | refine W.draw cx_mixed (by decide +kernel) ?_
    | ((first | (apply jK cx_ok; decide) | (apply jL cx_ok; decide; decide) | apply jM cx_ok | apply jR); (simp (disch := omega) only [push_cast, simprocAttr, hcF] <;> rfl); all_goals try ((with_reducible intro hI); try first | (cases hI; done) | (simp only [INTS, zL] at hI; try first | (exfalso; omega) | (have hT : True := hI; clear hT hI))))
    | ((first | (apply jV cx_ok; decide) | (apply jW cx_ok; decide; decide)); (iterate 2 (simp (disch := omega) only [push_cast, simprocAttr, hcF] <;> rfl)); (with_reducible first | exact Check_ok r); try first | rfl | (simp (disch := omega) only [push_cast, simprocAttr, hcF] <;> rfl))
    | ((first | apply jh | apply ji); (iterate 2 (try (simp (disch := omega) only [push_cast, simprocAttr, hcF] <;> rfl))))

  all_goals (show _ = _; rfl)
theorem Needed_out (r : Rec) (n : Int) (hc : checkE r = 0) (hn : ¬ (0 ≤ n ∧ n < (r.strikes.length : Int))) : OKv cx 49 [.agg (eRec r), ai n] (.tup [.lst [], ai 1]) := by
  have hns := (checkE_V hc).nstrikes
  have sa := strikeB_ok r n (by omega) false ⟨fun h => (by cases h), fun h => absurd h hn⟩
  refine OKat.of_body (rs := [4, 5]) Try.func49 rfl (by decide +kernel) rfl (by simp [Try.ntmps49]) ?_
  simp only [Try.ntmps49]
  repeat' first
    | apply jA | apply jB | apply jC | apply jD | apply jE | apply jF | apply jG | apply jH | apply jI | apply jJ
    | refine W.draw cx_mixed (by decide +kernel) ?_
    | ((first | (apply jK cx_ok; decide) | (apply jL cx_ok; decide; decide) | apply jM cx_ok | apply jR); (simp (disch := omega) only [push_cast, simprocAttr, hc] <;> rfl); all_goals try ((with_reducible intro hI); try first | (cases hI; done) | (simp only [INTS, zL] at hI; try first | (exfalso; omega) | (have hT : True := hI; clear hT hI))))
    | ((first | (apply jV cx_ok; decide) | (apply jW cx_ok; decide; decide)); (iterate 2 (simp (disch := omega) only [push_cast, simprocAttr, hc] <;> rfl)); (with_reducible first | exact Check_ok r | exact sa); try first | rfl | (simp (disch := omega) only [push_cast, simprocAttr, hc] <;> rfl))
    | ((first | apply jh | apply ji); (iterate 2 (try (simp (disch := omega) only [push_cast, simprocAttr, hc] <;> rfl))))

  all_goals (show _ = _; rfl)
theorem Needed_clash (r : Rec) (n : Int) (hc : checkE r = 0) (hn : 0 ≤ n ∧ n < (r.strikes.length : Int)) (hq : consP r [] = false) : OKv cx 49 [.agg (eRec r), ai n] (.tup [.lst [], ai 9]) := by
  have hns := (checkE_V hc).nstrikes
  have sa := strikeB_ok r n (by omega) true ⟨fun _ => hn, fun _ => rfl⟩
  have hs : OKv cx 81 [.agg (eRec r), .lst []] (.tup [.v (.pointer none), ai 9]) := by
    rcases solved0 r with ⟨hc', _⟩ | ⟨_, _, hs⟩ | ⟨_, hq', _⟩
    · exact absurd hc hc'
    · exact hs
    · rw [hq] at hq'; cases hq'
  refine OKat.of_body (rs := [4, 5]) Try.func49 rfl (by decide +kernel) rfl (by simp [Try.ntmps49]) ?_
  simp only [Try.ntmps49]
  repeat' first
    | apply jA | apply jB | apply jC | apply jD | apply jE | apply jF | apply jG | apply jH | apply jI | apply jJ
    | refine W.draw cx_mixed (by decide +kernel) ?_
    | ((first | (apply jK cx_ok; decide) | (apply jL cx_ok; decide; decide) | apply jM cx_ok | apply jR); (simp (disch := omega) only [push_cast, simprocAttr, hc] <;> rfl); all_goals try ((with_reducible intro hI); try first | (cases hI; done) | (simp only [INTS, zL] at hI; try first | (exfalso; omega) | (have hT : True := hI; clear hT hI))))
    | ((first | (apply jV cx_ok; decide) | (apply jW cx_ok; decide; decide)); (iterate 2 (simp (disch := omega) only [push_cast, simprocAttr, hc] <;> rfl)); (with_reducible first | exact Check_ok r | exact sa | exact hs); try first | rfl | (simp (disch := omega) only [push_cast, simprocAttr, hc] <;> rfl))
    | ((first | apply jh | apply ji); (iterate 2 (try (simp (disch := omega) only [push_cast, simprocAttr, hc] <;> rfl))))

  all_goals (show _ = _; rfl)
theorem Needed_good (r : Rec) (n0 : Nat) (hc : checkE r = 0) (hn : n0 < r.strikes.length) (hq : consP r [] = true) : OKv cx 49 [.agg (eRec r), ai n0] (.tup [lInt (neF r n0 r.sights.length), ai 0]) := by
  have hv := checkE_V hc
  have hns := hv.nstrikes
  have hn2 := hv.nsights
  have sa := strikeB_ok r n0 (by omega) true ⟨fun _ => ⟨by omega, by omega⟩, fun _ => rfl⟩
  have hs : OKv cx 81 [.agg (eRec r), .lst []] (.tup [gSys (nodesR r []) (linksR r []), ai 0]) := by
    rcases solved0 r with ⟨hc', _⟩ | ⟨_, hq', _⟩ | ⟨_, _, hs⟩
    · exact absurd hc hc'
    · rw [hq] at hq'; cases hq'
    · exact hs
  have hl := nodesR_len r []
  have hcast : ((3 + n0 : Nat) : Int) = 3 + (n0 : Int) := by omega
  have ti : OKv cx 83 [gSys (nodesR r []) (linksR r []), ai 3, ai n0] (ai (3 + (n0 : Int))) := by rw [← atP_strike (r := r) (more := []) (i := n0) (by omega)]; exact at_ok (nodesR r []) (linksR r []) 3 n0
  obtain ⟨f1, f2, f3, f4, f5⟩ := links_facts (more := []) hv (by decide) nomore
  have c82 : OKv cx 82 [gSys (nodesR r []) (linksR r []), ai 0, ai ((3 + n0 : Nat) : Int)] (.agg (eSpan (spanF (nodesR r []) (linksR r []) 0 (3 + n0)))) := span_ok (nodesR r []) (linksR r []) 0 (3 + n0) f1 f2 f3 f4 (by omega) (by omega)
  rw [hcast] at c82
  obtain ⟨S0, hS0'⟩ : ∃ z, ownF r n0 = z := ⟨_, rfl⟩
  have hS0'' : spanF (nodesR r []) (linksR r []) 0 (3 + n0) = S0 := hS0'
  rw [hS0''] at c82
  refine OKat.of_body (rs := [4, 5]) Try.func49 rfl (by decide +kernel) rfl (by simp [Try.ntmps49]) ?_
  simp only [Try.ntmps49]
  repeat' first
    | apply jA | apply jB | apply jC | apply jD | apply jE | apply jF | apply jG | apply jH | apply jI | apply jJ
    | refine W.draw cx_mixed (by decide +kernel) ?_
    | ((first | (apply jK cx_ok; decide) | (apply jL cx_ok; decide; decide) | apply jM cx_ok | apply jR); (simp (disch := (first | omega | (simp only [vC]; omega))) only [push_cast, simprocAttr, takeM, dropM, zK, zA, zB, zN, zQ, zR, zO, zP, zT, zS, zU, leT, zH, hc] <;> rfl); all_goals try ((with_reducible intro hI); try first | (cases hI; done) | (simp only [INTS, zL] at hI; try first | (exfalso; omega) | (have hT : True := hI; clear hT hI))))
    | (apply jT cx_ok; decide; rfl; rfl; rfl; decide; (iterate 3 (simp (disch := (first | omega | (simp only [vC]; omega))) only [push_cast, simprocAttr, takeM, dropM, zK, zA, zB, zN, zQ, zR, zO, zP, zT, zS, zU, leT, zH, hc] <;> rfl)); (first | (focus (simp; done)) | (intro c hc; obtain ⟨x, _, rfl⟩ := List.mem_map.1 hc; rfl)); ((first | rfl | simp (disch := omega) only [push_cast])); ((try dsimp only); (try simp only [vC]); omega); ((try dsimp only); (try simp only [vC]); omega))
    | ((first | (apply jV cx_ok; decide) | (apply jW cx_ok; decide; decide)); (iterate 2 (simp (disch := (first | omega | (simp only [vC]; omega))) only [push_cast, simprocAttr, takeM, dropM, zK, zA, zB, zN, zQ, zR, zO, zP, zT, zS, zU, leT, zH, hc] <;> rfl)); (with_reducible first | exact Check_ok r | exact sa | exact hs | exact ti | exact c82); try first | rfl | (simp (disch := (first | omega | (simp only [vC]; omega))) only [push_cast, simprocAttr, takeM, dropM, zK, zA, zB, zN, zQ, zR, zO, zP, zT, zS, zU, leT, zH, hc] <;> rfl))
    | ((first | apply jh | apply ji); (iterate 2 (try (simp (disch := (first | omega | (simp only [vC]; omega))) only [push_cast, simprocAttr, takeM, dropM, zK, zA, zB, zN, zQ, zR, zO, zP, zT, zS, zU, leT, zH, hc] <;> rfl))))

  refine AW.adopt 11 1 3 ?_ ?_
  · (simp (disch := omega) only [push_cast, simprocAttr, hc] <;> rfl)
  refine AW.loop (fun n s => ∃ (k : Nat), n = r.sights.length - k ∧ (k ≤ r.sights.length) ∧ 3 ≤ s.nx ∧ s.tm 2 = .ptr 0 0 0 1 ∧ s.tm 9 = ai (3 + (n0 : Int)) ∧ s.tm 10 = .ptr 1 0 0 1 ∧ s.tm 11 = .ref 2 0 (neF r n0 k).length ∧ s.tm 39 = ai r.sights.length ∧ s.tm 40 = ai k ∧ Pg.rowAt s.H (0) = some ({ k := 14, es := [eRec r], ty := 30 }) ∧ Pg.rowAt s.H (1) = some ({ k := 2, es := [eSpan S0], ty := 23 }) ∧ Pg.rowAt s.H (2) = some ({ k := 1, es := (neF r n0 k).map eInt, ty := 3, lo := (neF r n0 k).length })) (r.sights.length) ⟨0, rfl, (Nat.zero_le _), ?_, ?_, ?_, ?_, ?_, ?_, ?_, ?_, ?_, ?_⟩ ?_
  iterate 10 (first | (simp (disch := omega) only [push_cast, simprocAttr, natNe, zI, zG, zJ, isEmpty_map, zV, zW, zC, zM, zY, zX, zE, zD, yD, zO, hc, neF, List.range_zero, List.filter_nil] <;> first | rfl | omega) | omega)
  rintro n2 s2 ⟨k2, hn2, hp02, hnl2, hS2⟩
  have hZ2 : (0 : Nat) ≠ s2.nx ∧ s2.nx ≠ (0 : Nat) ∧ (1 : Nat) ≠ s2.nx ∧ s2.nx ≠ (1 : Nat) ∧ (2 : Nat) ≠ s2.nx ∧ s2.nx ≠ (2 : Nat) := by omega
  by_cases hk2 : k2 < r.sights.length
  · have hkI : (k2 : Int) < (r.sights.length : Int) := by omega
    have hun := unseen_ok r k2 hk2 (by omega)
    have hux := unseen_zero hc k2
    have hbd := (conP_ok (unseenR r k2) hux).1
    have hxl := nodesR_len (unseenR r k2) []
    have hxs : (unseenR r k2).strikes.length = r.strikes.length := rfl
    obtain ⟨e1, e2, e3, e4, e5⟩ := links_facts (more := []) (checkE_V hux) (by decide) nomore
    have c82b : OKv cx 82 [gSys (nodesR (unseenR r k2) []) (linksR (unseenR r k2) []), ai 0, ai ((3 + n0 : Nat) : Int)] (.agg (eSpan (spanF (nodesR (unseenR r k2) []) (linksR (unseenR r k2) []) 0 (3 + n0)))) := span_ok _ _ 0 (3 + n0) e1 e2 e3 e4 (by omega) (by omega)
    rw [hcast] at c82b
    have hsu := neF_succ r n0 k2
    have hnl2 := neF_len r n0 k2
    obtain ⟨S1, hS1⟩ : ∃ z, lessF r n0 k2 = z := ⟨_, rfl⟩
    have hS1' : spanF (nodesR (unseenR r k2) []) (linksR (unseenR r k2) []) 0 (3 + n0) = S1 := hS1
    rw [hS1'] at c82b
    rw [hS1, hS0'] at hsu
    obtain ⟨R2, hR2⟩ : ∃ z, unseenR r k2 = z := ⟨_, rfl⟩
    have hfl : flatA (.agg (eRec R2)) = false := rfl
    rw [hR2] at hun c82b hbd
    obtain ⟨ND, hND⟩ : ∃ z, nodesR R2 [] = z := ⟨_, rfl⟩
    obtain ⟨LK, hLK⟩ : ∃ z, linksR R2 [] = z := ⟨_, rfl⟩
    rw [hND, hLK] at c82b hbd
    have hEq := spanEq S1 S0
    obtain ⟨B, hB⟩ : ∃ z, decide (S1 = S0) = z := ⟨_, rfl⟩
    have hsu2 : neF r n0 (k2 + 1) = neF r n0 k2 ++ (if B = true then [] else [(k2 : Int)]) := by
      rw [hsu, ← hB]
      by_cases hsp : S1 = S0 <;> simp [hsp]
    rw [hB] at hEq
    clear hsu hB
    cases B <;> simp only [zM, ite_false, ite_true, zZ] at hsu2
    all_goals
      repeat' first
        | ((first | (apply W.callb cx_ok; decide) | (apply D.callb cx_ok; decide; decide)); (iterate 2 (simp (disch := (first | omega | (simp only [vC]; omega))) only [push_cast, simprocAttr, takeM, dropM, zK, zA, zB, zN, zQ, zR, zO, zP, zT, zS, zU, leT, zH, hS2, hZ2, hkI, hEq, Bool.not_true, Bool.not_false, natNe, zI, zG, zJ, isEmpty_map, zV, zW, zC, zM, zY, zX, zE, zD, yD, hfl, rowAt_afterH, St.back, idsL, idsA, idsLL, yB, yA] <;> rfl)); (with_reducible exact c82b); try first | rfl | (simp (disch := (first | omega | (simp only [vC]; omega))) only [push_cast, simprocAttr, takeM, dropM, zK, zA, zB, zN, zQ, zR, zO, zP, zT, zS, zU, leT, zH, hS2, hZ2, hkI, hEq, Bool.not_true, Bool.not_false, natNe, zI, zG, zJ, isEmpty_map, zV, zW, zC, zM, zY, zX, zE, zD, yD, hfl, rowAt_afterH, St.back, idsL, idsA, idsLL, yB, yA] <;> rfl))
        | apply jA | apply jB | apply jC | apply jD | apply jE | apply jF | apply jG | apply jH | apply jI | apply jJ
        | refine AW.draw (id := 16) cx_mixed [] [] [] 0 (by decide +kernel) ?_
        | refine W.draw cx_mixed (by decide +kernel) ?_
        | ((first | (apply jK cx_ok; decide) | (apply jL cx_ok; decide; decide) | apply jM cx_ok | apply jR); (simp (disch := (first | omega | (simp only [vC]; omega))) only [push_cast, simprocAttr, takeM, dropM, zK, zA, zB, zN, zQ, zR, zO, zP, zT, zS, zU, leT, zH, hS2, hZ2, hkI, hEq, Bool.not_true, Bool.not_false, natNe, zI, zG, zJ, isEmpty_map, zV, zW, zC, zM, zY, zX, zE, zD, yD, hfl, rowAt_afterH, St.back, idsL, idsA, idsLL, yB, yA] <;> rfl); all_goals try ((with_reducible intro hI); try first | (cases hI; done) | (simp only [INTS, zL] at hI; try first | (exfalso; omega) | (have hT : True := hI; clear hT hI))))
        | ((first | (apply jc cx_ok; decide; decide)); (simp (disch := (first | omega | (simp only [vC]; omega))) only [push_cast, simprocAttr, takeM, dropM, zK, zA, zB, zN, zQ, zR, zO, zP, zT, zS, zU, leT, zH, hS2, hZ2, hkI, hEq, Bool.not_true, Bool.not_false, natNe, zI, zG, zJ, isEmpty_map, zV, zW, zC, zM, zY, zX, zE, zD, yD, hfl, rowAt_afterH, St.back, idsL, idsA, idsLL, yB, yA] <;> rfl))
        | (apply jT cx_ok; decide; rfl; rfl; rfl; decide; (iterate 3 (simp (disch := (first | omega | (simp only [vC]; omega))) only [push_cast, simprocAttr, takeM, dropM, zK, zA, zB, zN, zQ, zR, zO, zP, zT, zS, zU, leT, zH, hS2, hZ2, hkI, hEq, Bool.not_true, Bool.not_false, natNe, zI, zG, zJ, isEmpty_map, zV, zW, zC, zM, zY, zX, zE, zD, yD, hfl, rowAt_afterH, St.back, idsL, idsA, idsLL, yB, yA] <;> rfl)); (first | (focus (simp; done)) | (intro c hc; obtain ⟨x, _, rfl⟩ := List.mem_map.1 hc; rfl)); ((first | rfl | simp (disch := omega) only [push_cast])); ((try dsimp only); (try simp only [vC]); omega); ((try dsimp only); (try simp only [vC]); omega))
        | ((first | (apply jV cx_ok; decide) | (apply jW cx_ok; decide; decide)); (iterate 2 (simp (disch := (first | omega | (simp only [vC]; omega))) only [push_cast, simprocAttr, takeM, dropM, zK, zA, zB, zN, zQ, zR, zO, zP, zT, zS, zU, leT, zH, hS2, hZ2, hkI, hEq, Bool.not_true, Bool.not_false, natNe, zI, zG, zJ, isEmpty_map, zV, zW, zC, zM, zY, zX, zE, zD, yD, hfl, rowAt_afterH, St.back, idsL, idsA, idsLL, yB, yA] <;> rfl)); (with_reducible first | exact hun | exact hbd); try first | rfl | (simp (disch := (first | omega | (simp only [vC]; omega))) only [push_cast, simprocAttr, takeM, dropM, zK, zA, zB, zN, zQ, zR, zO, zP, zT, zS, zU, leT, zH, hS2, hZ2, hkI, hEq, Bool.not_true, Bool.not_false, natNe, zI, zG, zJ, isEmpty_map, zV, zW, zC, zM, zY, zX, zE, zD, yD, hfl, rowAt_afterH, St.back, idsL, idsA, idsLL, yB, yA] <;> rfl))
        | ((first | apply jh | apply ji); (iterate 2 (try (simp (disch := (first | omega | (simp only [vC]; omega))) only [push_cast, simprocAttr, takeM, dropM, zK, zA, zB, zN, zQ, zR, zO, zP, zT, zS, zU, leT, zH, hS2, hZ2, hkI, hEq, Bool.not_true, Bool.not_false, natNe, zI, zG, zJ, isEmpty_map, zV, zW, zC, zM, zY, zX, zE, zD, yD, hfl, rowAt_afterH, St.back, idsL, idsA, idsLL, yB, yA] <;> rfl))))

      all_goals (refine ⟨r.sights.length - (k2 + 1), ?_, k2 + 1, rfl, (by omega), ?_, ?_, ?_, ?_, ?_, ?_, ?_, ?_, ?_, ?_⟩; (omega); all_goals first | (simp (disch := omega) only [push_cast, simprocAttr, hS2, hZ2, hkI, hsu2, natNe, zI, zG, zJ, isEmpty_map, zV, zW, zC, zM, zY, zX, zE, zD, yD, zO, hfl, rowAt_afterH, St.back, idsL, idsA, idsLL, yB, yA] <;> first | rfl | omega) | omega)
  have hkI : ¬ (k2 : Int) < (r.sights.length : Int) := by omega
  have hkS : k2 = r.sights.length := by omega
  subst hkS
  repeat' first
    | apply jA | apply jB | apply jC | apply jD | apply jE | apply jF | apply jG | apply jH | apply jI | apply jJ
    | refine W.draw cx_mixed (by decide +kernel) ?_
    | ((first | (apply jK cx_ok; decide) | (apply jL cx_ok; decide; decide) | apply jM cx_ok | apply jR); (simp (disch := (first | omega | (simp only [vC]; omega))) only [push_cast, simprocAttr, takeM, dropM, zK, zA, zB, zN, zQ, zR, zO, zP, zT, zS, zU, leT, zH, hS2, hZ2, hkI, natNe, zI, zG, zJ, isEmpty_map, zV, zW, zC, zM, zY, zX, zE, zD, yD] <;> rfl); all_goals try ((with_reducible intro hI); try first | (cases hI; done) | (simp only [INTS, zL] at hI; try first | (exfalso; omega) | (have hT : True := hI; clear hT hI))))
    | (apply jT cx_ok; decide; rfl; rfl; rfl; decide; (iterate 3 (simp (disch := (first | omega | (simp only [vC]; omega))) only [push_cast, simprocAttr, takeM, dropM, zK, zA, zB, zN, zQ, zR, zO, zP, zT, zS, zU, leT, zH, hS2, hZ2, hkI, natNe, zI, zG, zJ, isEmpty_map, zV, zW, zC, zM, zY, zX, zE, zD, yD] <;> rfl)); (first | (focus (simp; done)) | (intro c hc; obtain ⟨x, _, rfl⟩ := List.mem_map.1 hc; rfl)); ((first | rfl | simp (disch := omega) only [push_cast])); ((try dsimp only); (try simp only [vC]); omega); ((try dsimp only); (try simp only [vC]); omega))
    | ((first | apply jh | apply ji); (iterate 2 (try (simp (disch := (first | omega | (simp only [vC]; omega))) only [push_cast, simprocAttr, takeM, dropM, zK, zA, zB, zN, zQ, zR, zO, zP, zT, zS, zU, leT, zH, hS2, hZ2, hkI, natNe, zI, zG, zJ, isEmpty_map, zV, zW, zC, zM, zY, zX, zE, zD, yD] <;> rfl))))

  all_goals (show _ = _; rfl)
end Go.Proofs.Ks
