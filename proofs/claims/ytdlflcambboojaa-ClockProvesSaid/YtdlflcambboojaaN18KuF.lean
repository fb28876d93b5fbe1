/-
  Contracts of functions, proved by going through their code. No conditions.
-/
import Derived.Test.YtdlflcambboojaaMaa
import Derived.Test.YtdlflcambboojaaMbe
import Derived.Test.YtdlflcambboojaaN18KlZ
set_option linter.unusedVariables false
set_option linter.unusedSimpArgs false
set_option maxHeartbeats 8000000
set_option maxRecDepth 10000
namespace Go.Proofs.Ks
open Go Go.Pg Go.Proofs
theorem Tight_err (r : Rec) (e : Int) (he : e ≠ 0) (hs : OKv cx 81 [.agg (eRec r), .lst []] (.tup [.v (.pointer none), ai e])) : OKv cx 59 [.agg (eRec r)] (.tup [.lst [], ai e]) := by
  have heF : (e = 0) = False := eq_false he
  refine OKat.of_body (rs := [2, 3]) Try.func59 rfl (by decide +kernel) rfl (by simp [Try.ntmps59]) ?_
  simp only [Try.ntmps59]
  repeat' first
    | apply jA | apply jB | apply jC | apply jD | apply jE | apply jF | apply jG | apply jH | apply jI
    | ((first | (apply jK cx_ok; decide) | apply jR); (simp (disch := omega) only [push_cast, simprocAttr, heF] <;> rfl); all_goals try ((with_reducible intro hI); try first | (cases hI; done) | (simp only [INTS, zL] at hI; try first | (exfalso; omega) | (have hT : True := hI; clear hT hI))))
    | ((apply jV cx_ok; decide); (iterate 2 (simp (disch := omega) only [push_cast, simprocAttr, heF] <;> rfl)); (with_reducible first | exact hs); try first | rfl | (simp (disch := omega) only [push_cast, simprocAttr, heF] <;> rfl))
    | ((first | apply jh | apply ji); (iterate 2 (try (simp (disch := omega) only [push_cast, simprocAttr, heF] <;> rfl))))

  all_goals (show _ = _; rfl)
theorem Tight_good (r : Rec) (hc : checkE r = 0) (hq : consP r [] = true) : OKv cx 59 [.agg (eRec r)] (.tup [encM (tightP r), ai 0]) := by
  have hv := checkE_V hc
  obtain ⟨h1, h2, h3, h4, h5⟩ := links_facts (more := []) hv (by decide) nomore
  have hl := nodesR_len r []
  have hs : OKv cx 81 [.agg (eRec r), .lst []] (.tup [gSys (nodesR r []) (linksR r []), ai 0]) := solved_good r [] hc (by decide) nomore hq
  unfold tightP
  obtain ⟨SPK, hSPK⟩ : ∃ f, (fun i : Nat => (lengthsF (nodesR r []).length (linksR r []) (i : Int)).1) = f := ⟨_, rfl⟩
  rw [hSPK]
  have hsp : ∀ k : Nat, k < (nodesR r []).length → OKv cx 88 [gSys (nodesR r []) (linksR r []), ai k] (.tup [lInt (SPK k), lInt (lengthsF (nodesR r []).length (linksR r []) (k : Int)).2.1, ai (lengthsF (nodesR r []).length (linksR r []) (k : Int)).2.2]) := fun k hk => by
    rw [← hSPK]; exact lengths_ok (nodesR r []) (linksR r []) (k : Int) h1 h2 h3 h4
  refine OKat.of_body (rs := [2, 3]) Try.func59 rfl (by decide +kernel) rfl (by simp [Try.ntmps59]) ?_
  simp only [Try.ntmps59]
  repeat' first
    | apply jA | apply jB | apply jC | apply jD | apply jE | apply jF | apply jG | apply jH | apply jI
    | ((first | (apply jK cx_ok; decide) | apply jR); (simp (disch := (first | omega | (simp only [vC]; omega))) only [push_cast, simprocAttr, takeM, dropM, zK, zA, zB, zN, zQ, zR, zO, zP, zT, zS, zU, leT, zH] <;> rfl); all_goals try ((with_reducible intro hI); try first | (cases hI; done) | (simp only [INTS, zL] at hI; try first | (exfalso; omega) | (have hT : True := hI; clear hT hI))))
    | (apply jT cx_ok; decide; rfl; rfl; rfl; decide; (iterate 3 (simp (disch := (first | omega | (simp only [vC]; omega))) only [push_cast, simprocAttr, takeM, dropM, zK, zA, zB, zN, zQ, zR, zO, zP, zT, zS, zU, leT, zH] <;> rfl)); (first | (focus (simp; done)) | (intro c hc; obtain ⟨x, _, rfl⟩ := List.mem_map.1 hc; rfl)); ((first | rfl | simp (disch := omega) only [push_cast])); ((try dsimp only); (try simp only [vC]); omega); ((try dsimp only); (try simp only [vC]); omega))
    | ((apply jV cx_ok; decide); (iterate 2 (simp (disch := (first | omega | (simp only [vC]; omega))) only [push_cast, simprocAttr, takeM, dropM, zK, zA, zB, zN, zQ, zR, zO, zP, zT, zS, zU, leT, zH] <;> rfl)); (with_reducible first | exact hs); try first | rfl | (simp (disch := (first | omega | (simp only [vC]; omega))) only [push_cast, simprocAttr, takeM, dropM, zK, zA, zB, zN, zQ, zR, zO, zP, zT, zS, zU, leT, zH] <;> rfl))
    | ((first | apply jh | apply ji); (iterate 2 (try (simp (disch := (first | omega | (simp only [vC]; omega))) only [push_cast, simprocAttr, takeM, dropM, zK, zA, zB, zN, zQ, zR, zO, zP, zT, zS, zU, leT, zH] <;> rfl))))

  refine AW.adopt 6 1 41 ?_ ?_
  · (simp (disch := omega) only [push_cast, simprocAttr])
  refine AW.loop (fun n s => ∃ (k : Nat), n = (nodesR r []).length - k ∧ (k ≤ (nodesR r []).length) ∧ 2 ≤ s.nx ∧ s.tm 1 = .ptr 0 0 0 1 ∧ s.tm 4 = gSys (nodesR r []) (linksR r []) ∧ s.tm 6 = .ref 1 0 k ∧ s.tm 23 = ai (nodesR r []).length ∧ s.tm 24 = ai k ∧ Pg.rowAt s.H (1) = some ({ k := 1, es := ((List.range k).map SPK).map (fun row => [lInt row]), ty := 41, lo := k })) ((nodesR r []).length) ⟨0, rfl, (Nat.zero_le _), ?_, ?_, ?_, ?_, ?_, ?_, ?_⟩ ?_
  iterate 7 (first | (simp (disch := omega) only [push_cast, simprocAttr, List.range_zero, zW] <;> first | rfl | omega) | omega)
  rintro n s ⟨k, hn, hp0, hnl, hS⟩
  have hZ : (1 : Nat) ≠ s.nx ∧ s.nx ≠ (1 : Nat) := by omega
  by_cases hk : k < (nodesR r []).length
  · have hkI : (k : Int) < ((nodesR r []).length : Int) := by omega
    have c2 := hsp k hk
    have hsu : (List.range (k + 1)).map SPK = (List.range k).map SPK ++ [SPK k] := by rw [List.range_succ, List.map_append]; rfl
    repeat' first
      | apply jA | apply jB | apply jC | apply jD | apply jE | apply jF | apply jG | apply jH | apply jI
      | ((first | (apply jK cx_ok; decide) | apply jR); (simp (disch := (first | omega | (simp only [vC, List.length_range]; omega))) only [push_cast, simprocAttr, takeM, dropM, zK, zA, zB, zN, zQ, zR, zO, zP, zT, zS, zU, leT, zH, hS, hZ, hkI, zY, zX, zW, zE, zD, zC, List.length_range, isEmpty_map, zV, zM] <;> rfl); all_goals try ((with_reducible intro hI); try first | (cases hI; done) | (simp only [INTS, zL] at hI; try first | (exfalso; omega) | (have hT : True := hI; clear hT hI))))
      | (apply jT cx_ok; decide; rfl; rfl; rfl; decide; (iterate 3 (simp (disch := (first | omega | (simp only [vC, List.length_range]; omega))) only [push_cast, simprocAttr, takeM, dropM, zK, zA, zB, zN, zQ, zR, zO, zP, zT, zS, zU, leT, zH, hS, hZ, hkI, zY, zX, zW, zE, zD, zC, List.length_range, isEmpty_map, zV, zM] <;> rfl)); (first | (focus (simp; done)) | (intro c hc; obtain ⟨x, _, rfl⟩ := List.mem_map.1 hc; rfl)); ((first | rfl | simp (disch := omega) only [push_cast])); ((try dsimp only); (try simp only [vC, List.length_range]); omega); ((try dsimp only); (try simp only [vC, List.length_range]); omega))
      | ((apply jV cx_ok; decide); (iterate 2 (simp (disch := (first | omega | (simp only [vC, List.length_range]; omega))) only [push_cast, simprocAttr, takeM, dropM, zK, zA, zB, zN, zQ, zR, zO, zP, zT, zS, zU, leT, zH, hS, hZ, hkI, zY, zX, zW, zE, zD, zC, List.length_range, isEmpty_map, zV, zM] <;> rfl)); (with_reducible first | exact c2); try first | rfl | (simp (disch := (first | omega | (simp only [vC, List.length_range]; omega))) only [push_cast, simprocAttr, takeM, dropM, zK, zA, zB, zN, zQ, zR, zO, zP, zT, zS, zU, leT, zH, hS, hZ, hkI, zY, zX, zW, zE, zD, zC, List.length_range, isEmpty_map, zV, zM] <;> rfl))
      | ((first | apply jh | apply ji); (iterate 2 (try (simp (disch := (first | omega | (simp only [vC, List.length_range]; omega))) only [push_cast, simprocAttr, takeM, dropM, zK, zA, zB, zN, zQ, zR, zO, zP, zT, zS, zU, leT, zH, hS, hZ, hkI, zY, zX, zW, zE, zD, zC, List.length_range, isEmpty_map, zV, zM] <;> rfl))))

    all_goals (refine ⟨(nodesR r []).length - (k + 1), ?_, k + 1, rfl, (by omega), ?_, ?_, ?_, ?_, ?_, ?_, ?_⟩; (omega); all_goals first | (simp (disch := omega) only [push_cast, simprocAttr, hS, hZ, hkI, hsu, zY, zX, zW, zE, zD, zC, List.length_range, isEmpty_map, zV, zM] <;> first | rfl | omega) | omega)
  have hkI : ¬ (k : Int) < ((nodesR r []).length : Int) := by omega
  have hkS : k = (nodesR r []).length := by omega
  subst hkS
  repeat' first
    | apply jA | apply jB | apply jC | apply jD | apply jE | apply jF | apply jG | apply jH | apply jI
    | ((first | (apply jK cx_ok; decide) | apply jR); (simp (disch := (first | omega | (simp only [vC, List.length_range]; omega))) only [push_cast, simprocAttr, takeM, dropM, zK, zA, zB, zN, zQ, zR, zO, zP, zT, zS, zU, leT, zH, hS, hZ, hkI, pure_encM, take_encM, zY, zX, zW, zE, zD, zC, List.length_range, isEmpty_map, zV, zM] <;> rfl); all_goals try ((with_reducible intro hI); try first | (cases hI; done) | (simp only [INTS, zL] at hI; try first | (exfalso; omega) | (have hT : True := hI; clear hT hI))))
    | (apply jT cx_ok; decide; rfl; rfl; rfl; decide; (iterate 3 (simp (disch := (first | omega | (simp only [vC, List.length_range]; omega))) only [push_cast, simprocAttr, takeM, dropM, zK, zA, zB, zN, zQ, zR, zO, zP, zT, zS, zU, leT, zH, hS, hZ, hkI, pure_encM, take_encM, zY, zX, zW, zE, zD, zC, List.length_range, isEmpty_map, zV, zM] <;> rfl)); (first | (focus (simp; done)) | (intro c hc; obtain ⟨x, _, rfl⟩ := List.mem_map.1 hc; rfl)); ((first | rfl | simp (disch := omega) only [push_cast])); ((try dsimp only); (try simp only [vC, List.length_range]); omega); ((try dsimp only); (try simp only [vC, List.length_range]); omega))
    | ((first | apply jh | apply ji); (iterate 2 (try (simp (disch := (first | omega | (simp only [vC, List.length_range]; omega))) only [push_cast, simprocAttr, takeM, dropM, zK, zA, zB, zN, zQ, zR, zO, zP, zT, zS, zU, leT, zH, hS, hZ, hkI, pure_encM, take_encM, zY, zX, zW, zE, zD, zC, List.length_range, isEmpty_map, zV, zM] <;> rfl))))

  all_goals (show _ = _; rfl)
end Go.Proofs.Ks
