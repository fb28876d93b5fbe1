/-
  Contracts of functions, proved by going through their code. No conditions.
-/
import Derived.Test.YtdlflcambboojaaVaa
import Derived.Test.YtdlflcambboojaaVao
set_option linter.unusedVariables false
set_option linter.unusedSimpArgs false
set_option maxHeartbeats 8000000
set_option maxRecDepth 10000
namespace Go.Proofs.Ks
open Go Go.Pg Go.Proofs
attribute [push_cast] eLink
theorem bothL_len (n : Nat) (x : Span) : (bothL n x).length = 2 := rfl
theorem needleL_len (l : List Node) (n : Nat) (x : Span) : (needleL l n x).length = 2 := rfl
theorem bothL_ne (n : Nat) (x : Span) : (bothL n x).isEmpty = false := rfl
theorem needleL_ne (l : List Node) (n : Nat) (x : Span) : (needleL l n x).isEmpty = false := rfl
theorem drop_get {l : List Int} {k : Nat} {x : Int} {r : List Int} (h : l.drop k = x :: r) : l.getD k 0 = x ∧ k < l.length ∧ x ∈ l := by
  obtain ⟨h1, h2, h3, h4, h5, h6⟩ := drop_cons h eInt []
  have h7 : l[k]? = some x := by
    have := congrArg (fun m => m[0]?) h
    simpa using this
  exact ⟨by rw [List.getD_eq_getElem?_getD, h7]; rfl, by omega, h5⟩
theorem srt_lt {mk : List Int} (h : mk.Pairwise (· < ·)) {j k : Nat} {x y : Int} {r s : List Int} (hj : mk.drop j = x :: r) (hk : mk.drop k = y :: s) (hjk : j < k) : x < y := by
  obtain ⟨a1, a2, _⟩ := drop_get hj
  obtain ⟨b1, b2, _⟩ := drop_get hk
  have h1 := List.pairwise_iff_getElem.1 h j k a2 b2 hjk
  rw [List.getD_eq_getElem?_getD, List.getElem?_eq_getElem a2] at a1
  rw [List.getD_eq_getElem?_getD, List.getElem?_eq_getElem b2] at b1
  simp only [Option.getD_some] at a1 b1
  rw [← a1, ← b1]; exact h1
theorem rlinks_ok (r0 : Rec) (more : List Int) (hv : r0.V) (hml : more.length ≤ 8) (hmb : ∀ a ∈ more, 0 ≤ a ∧ a ≤ 43200) : OKv cx 97 [.agg (eRec r0), lInt more] (lLink (linksR r0 more)) := by
  have hr := hv.r
  have hns := hv.nstrikes
  have hng := hv.nsights
  obtain ⟨i1, i2, i3⟩ := hv.inn
  obtain ⟨o1, o2, o3⟩ := hv.out
  obtain ⟨z1, z2, z3⟩ := hv.z
  obtain ⟨f1, f2, f3⟩ := hv.f
  have hat := fun p (h : p ∈ marksR r0 more) => (at_mark h).1
  have hmz1 := hat r0.s.zero.lo (marksR_mem.2 (.inl (.inl rfl)))
  have hmz2 := hat (r0.s.zero.hi + 1) (marksR_mem.2 (.inl (.inr (.inl rfl))))
  have hmf1 := hat r0.s.fin.lo (marksR_mem.2 (.inl (.inr (.inr (.inl rfl)))))
  have hmf2 := hat (r0.s.fin.hi + 1) (marksR_mem.2 (.inl (.inr (.inr (.inr rfl)))))
  have hms1 : ∀ x ∈ r0.strikes, 0 ≤ atI 4 x.pos.lo 0 (nodesR r0 more) ∧ 0 ≤ atI 4 (x.pos.hi + 1) 0 (nodesR r0 more) := fun x hx => ⟨hat _ (marksR_mem.2 (.inr (.inl ⟨x, hx, .inl rfl⟩))), hat _ (marksR_mem.2 (.inr (.inl ⟨x, hx, .inr rfl⟩)))⟩
  have hsrt := marksR_sorted r0 more
  have hbnd := fun a (h : a ∈ marksR r0 more) => marksR_bound hv hmb h
  have hmkl := marksR_len r0 more
  have hndl := nodesR_len r0 more
  have hnode := fun j (h : j < (marksR r0 more).length) => node_mark h
  obtain ⟨RES, hRES⟩ : ∃ z, linksR r0 more = z := ⟨_, rfl⟩
  rw [hRES]
  unfold linksR at hRES
  obtain ⟨nd, hnd⟩ : ∃ z, nodesR r0 more = z := ⟨_, rfl⟩
  obtain ⟨mk, hmk⟩ : ∃ z, marksR r0 more = z := ⟨_, rfl⟩
  rw [hnd] at hmz1 hmz2 hmf1 hmf2 hms1 hndl hnode hRES
  rw [hmk] at hsrt hbnd hmkl hndl hnode hRES
  obtain ⟨T3, hT3⟩ : ∃ z, needleL nd 2 r0.s.fin ++ pairsL r0.s (3 + r0.strikes.length) mk = z := ⟨_, rfl⟩
  rw [hT3] at hRES
  obtain ⟨T2, hT2⟩ : ∃ z, needleL nd 1 r0.s.zero ++ (ndL nd 0 r0.strikes ++ T3) = z := ⟨_, rfl⟩
  rw [hT2] at hRES
  obtain ⟨T1, hT1⟩ : ∃ z, rwL r0.strikes.length (r0.strikes.length + 1) 0 ++ T2 = z := ⟨_, rfl⟩
  rw [hT1] at hRES
  refine OKat.of_body (rs := [4]) Try.func97 rfl (by decide +kernel) rfl (by simp [Try.ntmps97]) ?_
  simp only [Try.ntmps97]
  repeat' first
    | ((apply D.calln cx_ok; decide; decide); (iterate 3 (simp (disch := (first | omega | (simp only [vC, bothL_len, needleL_len]; omega))) only [push_cast, simprocAttr, takeM, dropM, zK, zA, zB, zN, zQ, zR, zO, zP, zT, zS, zU, leT, zH, hnd, bothL_len] <;> rfl)); (with_reducible exact bothN_ok _ _ (by omega) ⟨by omega, by omega⟩); (first | exact .inl rfl | (refine .inr ?_; simp (disch := (first | omega | (simp only [vC, bothL_len, needleL_len]; omega))) only [push_cast, simprocAttr, takeM, dropM, zK, zA, zB, zN, zQ, zR, zO, zP, zT, zS, zU, leT, zH, hnd, bothL_len] <;> simp)))
    | apply jA | apply jB | apply jC | apply jD | apply jE | apply jF | apply jG | apply jH | apply jI | apply jJ
    | refine AW.draw (id := 2) cx_mixed [3, 7, 8, 9] [4, 5, 6] [1, 2] 0 (by decide +kernel) ?_
    | refine W.draw cx_mixed (by decide +kernel) ?_
    | ((first | (apply jK cx_ok; decide) | (apply jL cx_ok; decide; decide) | apply jR); (simp (disch := (first | omega | (simp only [vC, bothL_len, needleL_len]; omega))) only [push_cast, simprocAttr, takeM, dropM, zK, zA, zB, zN, zQ, zR, zO, zP, zT, zS, zU, leT, zH, hnd, bothL_len] <;> rfl); all_goals try ((with_reducible intro hI); try first | (cases hI; done) | (simp only [INTS, zL] at hI; try first | (exfalso; omega) | (have hT : True := hI; clear hT hI))))
    | ((first | (apply ja cx_ok; decide) | (apply jb cx_ok; decide; decide) | (apply jc cx_ok; decide; decide)); (simp (disch := (first | omega | (simp only [vC, bothL_len, needleL_len]; omega))) only [push_cast, simprocAttr, takeM, dropM, zK, zA, zB, zN, zQ, zR, zO, zP, zT, zS, zU, leT, zH, hnd, bothL_len] <;> rfl); try first | exact .inl rfl | exact .inr (by simp))
    | ((apply jY cx_ok; decide; decide); (simp (disch := (first | omega | (simp only [vC, bothL_len, needleL_len]; omega))) only [push_cast, simprocAttr, takeM, dropM, zK, zA, zB, zN, zQ, zR, zO, zP, zT, zS, zU, leT, zH, hnd, bothL_len] <;> rfl); first | exact .inl rfl | exact .inr (by simp))
    | (apply jT cx_ok; decide; rfl; rfl; rfl; decide; (iterate 3 (simp (disch := (first | omega | (simp only [vC, bothL_len, needleL_len]; omega))) only [push_cast, simprocAttr, takeM, dropM, zK, zA, zB, zN, zQ, zR, zO, zP, zT, zS, zU, leT, zH, hnd, bothL_len] <;> rfl)); (first | (focus (simp; done)) | (intro c hc; obtain ⟨x, _, rfl⟩ := List.mem_map.1 hc; rfl)); ((first | rfl | simp (disch := omega) only [push_cast])); ((try dsimp only); (try simp only [vC, bothL_len, needleL_len]); omega); ((try dsimp only); (try simp only [vC, bothL_len, needleL_len]); omega))
    | (apply jU cx_ok; decide; decide; rfl; rfl; rfl; decide; (iterate 3 (simp (disch := (first | omega | (simp only [vC, bothL_len, needleL_len]; omega))) only [push_cast, simprocAttr, takeM, dropM, zK, zA, zB, zN, zQ, zR, zO, zP, zT, zS, zU, leT, zH, hnd, bothL_len] <;> rfl)); (first | (focus (simp; done)) | (intro c hc; obtain ⟨x, _, rfl⟩ := List.mem_map.1 hc; rfl)); ((first | rfl | (simp (disch := omega) only [push_cast]; done))); ((try dsimp only); (try simp only [vC, bothL_len, needleL_len]); omega); ((try dsimp only); (try simp only [vC, bothL_len, needleL_len]); omega); first | exact .inl rfl | exact .inr (by simp))
    | ((first | (apply jV cx_ok; decide) | (apply jW cx_ok; decide; decide) | (apply jX cx_ok; decide; decide)); (iterate 2 (simp (disch := (first | omega | (simp only [vC, bothL_len, needleL_len]; omega))) only [push_cast, simprocAttr, takeM, dropM, zK, zA, zB, zN, zQ, zR, zO, zP, zT, zS, zU, leT, zH, hnd, bothL_len] <;> rfl)); (with_reducible first | exact nodes_ok r0 more hv (by omega) | exact both_ok _ _ (by omega) ⟨by omega, by omega⟩); try first | rfl | (simp (disch := (first | omega | (simp only [vC, bothL_len, needleL_len]; omega))) only [push_cast, simprocAttr, takeM, dropM, zK, zA, zB, zN, zQ, zR, zO, zP, zT, zS, zU, leT, zH, hnd, bothL_len] <;> rfl))
    | ((first | apply jf | apply jg); (iterate 2 (try (simp (disch := (first | omega | (simp only [vC, bothL_len, needleL_len]; omega))) only [push_cast, simprocAttr, takeM, dropM, zK, zA, zB, zN, zQ, zR, zO, zP, zT, zS, zU, leT, zH, hnd, bothL_len] <;> rfl))))
  refine AW.loop (fun n s => ∃ (k lw : Nat) (M : List Lk) (rest : List Sight), n = rest.length ∧ (r0.sights.drop k = rest) ∧ (M ++ (sgL r0 rest ++ T1) = RES) ∧ (lw ≤ M.length) ∧ (M.length ≤ 4 + 2 * k) ∧ (k ≤ r0.sights.length) ∧ 2 ≤ s.nx ∧ s.tm 2 = .ptr 0 0 0 1 ∧ s.tm 5 = lNode nd ∧ s.tm 6 = .ref 1 0 M.length ∧ s.tm 7 = ai k ∧ Pg.rowAt s.H (0) = some ({ k := 14, es := [eRec r0], ty := 30 }) ∧ Pg.rowAt s.H (1) = some ({ k := 3, es := M.map eLink, ty := 66, lo := lw })) (r0.sights.length) ⟨0, 4, (bothL 1 r0.s.inn ++ bothL 2 r0.s.out), r0.sights, rfl, rfl, (by rw [List.append_assoc]; exact hRES), (Nat.le_refl _), (Nat.le_refl _), (Nat.zero_le _), ?_, ?_, ?_, ?_, ?_, ?_, ?_⟩ ?_
  iterate 7 (first | (simp (disch := omega) only [push_cast, simprocAttr, hnd, bothL_len] <;> first | rfl | omega) | omega)
  rintro n s ⟨k, lw, M, rest, hn, hp0, hp1, hp2, hp3, hp4, hnl, hS⟩
  have hZ : (0 : Nat) ≠ s.nx ∧ s.nx ≠ (0 : Nat) ∧ (1 : Nat) ≠ s.nx ∧ s.nx ≠ (1 : Nat) := by omega
  rcases rest with _ | ⟨sg, rest⟩
  · have hk := drop_nil hp0
    rw [← hT1] at hp1
    simp only [sgL, yA] at hp1
    repeat' first
      | apply jA | apply jB | apply jC | apply jD | apply jE | apply jF | apply jG | apply jH | apply jI | apply jJ
      | refine W.draw cx_mixed (by decide +kernel) ?_
      | ((first | (apply jK cx_ok; decide) | (apply jL cx_ok; decide; decide) | apply jR); (simp (disch := (first | omega | (simp only [vC, bothL_len, needleL_len]; omega))) only [push_cast, simprocAttr, takeM, dropM, zK, zA, zB, zN, zQ, zR, zO, zP, zT, zS, zU, leT, zH, hS, hZ, hk] <;> rfl); all_goals try ((with_reducible intro hI); try first | (cases hI; done) | (simp only [INTS, zL] at hI; try first | (exfalso; omega) | (have hT : True := hI; clear hT hI))))
      | (apply jT cx_ok; decide; rfl; rfl; rfl; decide; (iterate 3 (simp (disch := (first | omega | (simp only [vC, bothL_len, needleL_len]; omega))) only [push_cast, simprocAttr, takeM, dropM, zK, zA, zB, zN, zQ, zR, zO, zP, zT, zS, zU, leT, zH, hS, hZ, hk] <;> rfl)); (first | (focus (simp; done)) | (intro c hc; obtain ⟨x, _, rfl⟩ := List.mem_map.1 hc; rfl)); ((first | rfl | simp (disch := omega) only [push_cast])); ((try dsimp only); (try simp only [vC, bothL_len, needleL_len]); omega); ((try dsimp only); (try simp only [vC, bothL_len, needleL_len]); omega))
      | ((first | apply jf | apply jg); (iterate 2 (try (simp (disch := (first | omega | (simp only [vC, bothL_len, needleL_len]; omega))) only [push_cast, simprocAttr, takeM, dropM, zK, zA, zB, zN, zQ, zR, zO, zP, zT, zS, zU, leT, zH, hS, hZ, hk] <;> rfl))))
    refine AW.loop (fun n s => ∃ (k lw : Nat) (M : List Lk), n = r0.strikes.length + 1 - k ∧ (k ≤ r0.strikes.length + 1) ∧ (M ++ (rwL r0.strikes.length (r0.strikes.length + 1 - k) k ++ T2) = RES) ∧ (lw ≤ M.length) ∧ (M.length ≤ 28 + k) ∧ 2 ≤ s.nx ∧ s.tm 2 = .ptr 0 0 0 1 ∧ s.tm 5 = lNode nd ∧ s.tm 6 = .ref 1 0 M.length ∧ s.tm 8 = ai k ∧ Pg.rowAt s.H (0) = some ({ k := 14, es := [eRec r0], ty := 30 }) ∧ Pg.rowAt s.H (1) = some ({ k := 3, es := M.map eLink, ty := 66, lo := lw })) (r0.strikes.length + 1) ⟨0, lw, M, rfl, (Nat.zero_le _), hp1, hp2, (by omega), ?_, ?_, ?_, ?_, ?_, ?_, ?_⟩ ?_
    iterate 7 (first | (simp (disch := omega) only [push_cast, simprocAttr, hS, hZ, hk] <;> first | rfl | omega) | omega)
    rintro n1 s1 ⟨k1, lw1, M1, hn1, hp01, hp11, hp21, hp31, hnl1, hS1⟩
    have hZ1 : (0 : Nat) ≠ s1.nx ∧ s1.nx ≠ (0 : Nat) ∧ (1 : Nat) ≠ s1.nx ∧ s1.nx ≠ (1 : Nat) := by omega
    by_cases hle : k1 ≤ r0.strikes.length
    · have hk1 : (k1 : Int) ≤ (r0.strikes.length : Int) := by omega
      rw [show r0.strikes.length + 1 - k1 = r0.strikes.length - k1 + 1 by omega] at hp11
      simp only [rwL, yB] at hp11
      have hp11' : (M1 ++ [rowK r0.strikes.length k1]) ++ (rwL r0.strikes.length (r0.strikes.length + 1 - (k1 + 1)) (k1 + 1) ++ T2) = RES := by
        rw [show r0.strikes.length + 1 - (k1 + 1) = r0.strikes.length - k1 by omega, List.append_assoc]; exact hp11
      have hm0 : (rowK r0.strikes.length k1).m = 0 := rfl
      by_cases hlt : k1 < r0.strikes.length
      · by_cases h0 : 0 < k1
        ·
          have hlt' : (k1 : Int) < (r0.strikes.length : Int) := by omega
          have ha : (rowK r0.strikes.length k1).a = 3 + k1 := if_pos hlt
          have h0' : (0 : Int) < (k1 : Int) := by omega
          have hb : (rowK r0.strikes.length k1).b = 2 + k1 := if_pos h0
          repeat' first
            | apply jA | apply jB | apply jC | apply jD | apply jE | apply jF | apply jG | apply jH | apply jI | apply jJ
            | refine W.draw cx_mixed (by decide +kernel) ?_
            | ((first | (apply jK cx_ok; decide) | (apply jL cx_ok; decide; decide) | apply jR); (simp (disch := (first | omega | (simp only [vC, bothL_len, needleL_len]; omega))) only [push_cast, simprocAttr, takeM, dropM, zK, zA, zB, zN, zQ, zR, zO, zP, zT, zS, zU, leT, zH, hS1, hZ1, hk1, hlt', h0', ha, hb, hm0, bothL_ne, needleL_ne, bothL_len, needleL_len, zM, zZ, yC, yD, Int.neg_zero] <;> rfl); all_goals try ((with_reducible intro hI); try first | (cases hI; done) | (simp only [INTS, zL] at hI; try first | (exfalso; omega) | (have hT : True := hI; clear hT hI))))
            | (apply jT cx_ok; decide; rfl; rfl; rfl; decide; (iterate 3 (simp (disch := (first | omega | (simp only [vC, bothL_len, needleL_len]; omega))) only [push_cast, simprocAttr, takeM, dropM, zK, zA, zB, zN, zQ, zR, zO, zP, zT, zS, zU, leT, zH, hS1, hZ1, hk1, hlt', h0', ha, hb, hm0, bothL_ne, needleL_ne, bothL_len, needleL_len, zM, zZ, yC, yD, Int.neg_zero] <;> rfl)); (first | (focus (simp; done)) | (intro c hc; obtain ⟨x, _, rfl⟩ := List.mem_map.1 hc; rfl)); ((first | rfl | simp (disch := omega) only [push_cast])); ((try dsimp only); (try simp only [vC, bothL_len, needleL_len]); omega); ((try dsimp only); (try simp only [vC, bothL_len, needleL_len]); omega))
            | ((first | apply jf | apply jg); (iterate 2 (try (simp (disch := (first | omega | (simp only [vC, bothL_len, needleL_len]; omega))) only [push_cast, simprocAttr, takeM, dropM, zK, zA, zB, zN, zQ, zR, zO, zP, zT, zS, zU, leT, zH, hS1, hZ1, hk1, hlt', h0', ha, hb, hm0, bothL_ne, needleL_ne, bothL_len, needleL_len, zM, zZ, yC, yD, Int.neg_zero] <;> rfl))))
          all_goals (refine ⟨r0.strikes.length + 1 - (k1 + 1), ?_, k1 + 1, M1.length + 1, (M1 ++ [rowK r0.strikes.length k1]), rfl, (by omega), hp11', (by simp), (by simp; omega), ?_, ?_, ?_, ?_, ?_, ?_, ?_⟩; (omega); all_goals first | (simp (disch := omega) only [push_cast, simprocAttr, hS1, hZ1, hk1, hlt', h0', ha, hb, hm0, bothL_ne, needleL_ne, bothL_len, needleL_len, zM, zZ, yC, yD, Int.neg_zero] <;> first | rfl | omega) | omega)
        ·
          have hlt' : (k1 : Int) < (r0.strikes.length : Int) := by omega
          have ha : (rowK r0.strikes.length k1).a = 3 + k1 := if_pos hlt
          have h0' : ¬ (0 : Int) < (k1 : Int) := by omega
          have hb : (rowK r0.strikes.length k1).b = 1 := if_neg h0
          repeat' first
            | apply jA | apply jB | apply jC | apply jD | apply jE | apply jF | apply jG | apply jH | apply jI | apply jJ
            | refine W.draw cx_mixed (by decide +kernel) ?_
            | ((first | (apply jK cx_ok; decide) | (apply jL cx_ok; decide; decide) | apply jR); (simp (disch := (first | omega | (simp only [vC, bothL_len, needleL_len]; omega))) only [push_cast, simprocAttr, takeM, dropM, zK, zA, zB, zN, zQ, zR, zO, zP, zT, zS, zU, leT, zH, hS1, hZ1, hk1, hlt', h0', ha, hb, hm0, bothL_ne, needleL_ne, bothL_len, needleL_len, zM, zZ, yC, yD, Int.neg_zero] <;> rfl); all_goals try ((with_reducible intro hI); try first | (cases hI; done) | (simp only [INTS, zL] at hI; try first | (exfalso; omega) | (have hT : True := hI; clear hT hI))))
            | (apply jT cx_ok; decide; rfl; rfl; rfl; decide; (iterate 3 (simp (disch := (first | omega | (simp only [vC, bothL_len, needleL_len]; omega))) only [push_cast, simprocAttr, takeM, dropM, zK, zA, zB, zN, zQ, zR, zO, zP, zT, zS, zU, leT, zH, hS1, hZ1, hk1, hlt', h0', ha, hb, hm0, bothL_ne, needleL_ne, bothL_len, needleL_len, zM, zZ, yC, yD, Int.neg_zero] <;> rfl)); (first | (focus (simp; done)) | (intro c hc; obtain ⟨x, _, rfl⟩ := List.mem_map.1 hc; rfl)); ((first | rfl | simp (disch := omega) only [push_cast])); ((try dsimp only); (try simp only [vC, bothL_len, needleL_len]); omega); ((try dsimp only); (try simp only [vC, bothL_len, needleL_len]); omega))
            | ((first | apply jf | apply jg); (iterate 2 (try (simp (disch := (first | omega | (simp only [vC, bothL_len, needleL_len]; omega))) only [push_cast, simprocAttr, takeM, dropM, zK, zA, zB, zN, zQ, zR, zO, zP, zT, zS, zU, leT, zH, hS1, hZ1, hk1, hlt', h0', ha, hb, hm0, bothL_ne, needleL_ne, bothL_len, needleL_len, zM, zZ, yC, yD, Int.neg_zero] <;> rfl))))
          all_goals (refine ⟨r0.strikes.length + 1 - (k1 + 1), ?_, k1 + 1, M1.length + 1, (M1 ++ [rowK r0.strikes.length k1]), rfl, (by omega), hp11', (by simp), (by simp; omega), ?_, ?_, ?_, ?_, ?_, ?_, ?_⟩; (omega); all_goals first | (simp (disch := omega) only [push_cast, simprocAttr, hS1, hZ1, hk1, hlt', h0', ha, hb, hm0, bothL_ne, needleL_ne, bothL_len, needleL_len, zM, zZ, yC, yD, Int.neg_zero] <;> first | rfl | omega) | omega)
      · by_cases h0 : 0 < k1
        ·
          have hlt' : ¬ (k1 : Int) < (r0.strikes.length : Int) := by omega
          have ha : (rowK r0.strikes.length k1).a = 2 := if_neg hlt
          have h0' : (0 : Int) < (k1 : Int) := by omega
          have hb : (rowK r0.strikes.length k1).b = 2 + k1 := if_pos h0
          repeat' first
            | apply jA | apply jB | apply jC | apply jD | apply jE | apply jF | apply jG | apply jH | apply jI | apply jJ
            | refine W.draw cx_mixed (by decide +kernel) ?_
            | ((first | (apply jK cx_ok; decide) | (apply jL cx_ok; decide; decide) | apply jR); (simp (disch := (first | omega | (simp only [vC, bothL_len, needleL_len]; omega))) only [push_cast, simprocAttr, takeM, dropM, zK, zA, zB, zN, zQ, zR, zO, zP, zT, zS, zU, leT, zH, hS1, hZ1, hk1, hlt', h0', ha, hb, hm0, bothL_ne, needleL_ne, bothL_len, needleL_len, zM, zZ, yC, yD, Int.neg_zero] <;> rfl); all_goals try ((with_reducible intro hI); try first | (cases hI; done) | (simp only [INTS, zL] at hI; try first | (exfalso; omega) | (have hT : True := hI; clear hT hI))))
            | (apply jT cx_ok; decide; rfl; rfl; rfl; decide; (iterate 3 (simp (disch := (first | omega | (simp only [vC, bothL_len, needleL_len]; omega))) only [push_cast, simprocAttr, takeM, dropM, zK, zA, zB, zN, zQ, zR, zO, zP, zT, zS, zU, leT, zH, hS1, hZ1, hk1, hlt', h0', ha, hb, hm0, bothL_ne, needleL_ne, bothL_len, needleL_len, zM, zZ, yC, yD, Int.neg_zero] <;> rfl)); (first | (focus (simp; done)) | (intro c hc; obtain ⟨x, _, rfl⟩ := List.mem_map.1 hc; rfl)); ((first | rfl | simp (disch := omega) only [push_cast])); ((try dsimp only); (try simp only [vC, bothL_len, needleL_len]); omega); ((try dsimp only); (try simp only [vC, bothL_len, needleL_len]); omega))
            | ((first | apply jf | apply jg); (iterate 2 (try (simp (disch := (first | omega | (simp only [vC, bothL_len, needleL_len]; omega))) only [push_cast, simprocAttr, takeM, dropM, zK, zA, zB, zN, zQ, zR, zO, zP, zT, zS, zU, leT, zH, hS1, hZ1, hk1, hlt', h0', ha, hb, hm0, bothL_ne, needleL_ne, bothL_len, needleL_len, zM, zZ, yC, yD, Int.neg_zero] <;> rfl))))
          all_goals (refine ⟨r0.strikes.length + 1 - (k1 + 1), ?_, k1 + 1, M1.length + 1, (M1 ++ [rowK r0.strikes.length k1]), rfl, (by omega), hp11', (by simp), (by simp; omega), ?_, ?_, ?_, ?_, ?_, ?_, ?_⟩; (omega); all_goals first | (simp (disch := omega) only [push_cast, simprocAttr, hS1, hZ1, hk1, hlt', h0', ha, hb, hm0, bothL_ne, needleL_ne, bothL_len, needleL_len, zM, zZ, yC, yD, Int.neg_zero] <;> first | rfl | omega) | omega)
        ·
          have hlt' : ¬ (k1 : Int) < (r0.strikes.length : Int) := by omega
          have ha : (rowK r0.strikes.length k1).a = 2 := if_neg hlt
          have h0' : ¬ (0 : Int) < (k1 : Int) := by omega
          have hb : (rowK r0.strikes.length k1).b = 1 := if_neg h0
          repeat' first
            | apply jA | apply jB | apply jC | apply jD | apply jE | apply jF | apply jG | apply jH | apply jI | apply jJ
            | refine W.draw cx_mixed (by decide +kernel) ?_
            | ((first | (apply jK cx_ok; decide) | (apply jL cx_ok; decide; decide) | apply jR); (simp (disch := (first | omega | (simp only [vC, bothL_len, needleL_len]; omega))) only [push_cast, simprocAttr, takeM, dropM, zK, zA, zB, zN, zQ, zR, zO, zP, zT, zS, zU, leT, zH, hS1, hZ1, hk1, hlt', h0', ha, hb, hm0, bothL_ne, needleL_ne, bothL_len, needleL_len, zM, zZ, yC, yD, Int.neg_zero] <;> rfl); all_goals try ((with_reducible intro hI); try first | (cases hI; done) | (simp only [INTS, zL] at hI; try first | (exfalso; omega) | (have hT : True := hI; clear hT hI))))
            | (apply jT cx_ok; decide; rfl; rfl; rfl; decide; (iterate 3 (simp (disch := (first | omega | (simp only [vC, bothL_len, needleL_len]; omega))) only [push_cast, simprocAttr, takeM, dropM, zK, zA, zB, zN, zQ, zR, zO, zP, zT, zS, zU, leT, zH, hS1, hZ1, hk1, hlt', h0', ha, hb, hm0, bothL_ne, needleL_ne, bothL_len, needleL_len, zM, zZ, yC, yD, Int.neg_zero] <;> rfl)); (first | (focus (simp; done)) | (intro c hc; obtain ⟨x, _, rfl⟩ := List.mem_map.1 hc; rfl)); ((first | rfl | simp (disch := omega) only [push_cast])); ((try dsimp only); (try simp only [vC, bothL_len, needleL_len]); omega); ((try dsimp only); (try simp only [vC, bothL_len, needleL_len]); omega))
            | ((first | apply jf | apply jg); (iterate 2 (try (simp (disch := (first | omega | (simp only [vC, bothL_len, needleL_len]; omega))) only [push_cast, simprocAttr, takeM, dropM, zK, zA, zB, zN, zQ, zR, zO, zP, zT, zS, zU, leT, zH, hS1, hZ1, hk1, hlt', h0', ha, hb, hm0, bothL_ne, needleL_ne, bothL_len, needleL_len, zM, zZ, yC, yD, Int.neg_zero] <;> rfl))))
          all_goals (refine ⟨r0.strikes.length + 1 - (k1 + 1), ?_, k1 + 1, M1.length + 1, (M1 ++ [rowK r0.strikes.length k1]), rfl, (by omega), hp11', (by simp), (by simp; omega), ?_, ?_, ?_, ?_, ?_, ?_, ?_⟩; (omega); all_goals first | (simp (disch := omega) only [push_cast, simprocAttr, hS1, hZ1, hk1, hlt', h0', ha, hb, hm0, bothL_ne, needleL_ne, bothL_len, needleL_len, zM, zZ, yC, yD, Int.neg_zero] <;> first | rfl | omega) | omega)
    · have hk1 : ¬ (k1 : Int) ≤ (r0.strikes.length : Int) := by omega
      rw [show r0.strikes.length + 1 - k1 = 0 by omega, ← hT2] at hp11
      simp only [rwL, yA] at hp11
      repeat' first
        | apply jA | apply jB | apply jC | apply jD | apply jE | apply jF | apply jG | apply jH | apply jI | apply jJ
        | refine W.draw cx_mixed (by decide +kernel) ?_
        | ((first | (apply jK cx_ok; decide) | (apply jL cx_ok; decide; decide) | apply jR); (simp (disch := (first | omega | (simp only [vC, bothL_len, needleL_len]; omega))) only [push_cast, simprocAttr, takeM, dropM, zK, zA, zB, zN, zQ, zR, zO, zP, zT, zS, zU, leT, zH, hS1, hZ1, hk1, bothL_ne, needleL_ne, bothL_len, needleL_len, zM, zZ, yC, yD, Int.neg_zero] <;> rfl); all_goals try ((with_reducible intro hI); try first | (cases hI; done) | (simp only [INTS, zL] at hI; try first | (exfalso; omega) | (have hT : True := hI; clear hT hI))))
        | (apply jT cx_ok; decide; rfl; rfl; rfl; decide; (iterate 3 (simp (disch := (first | omega | (simp only [vC, bothL_len, needleL_len]; omega))) only [push_cast, simprocAttr, takeM, dropM, zK, zA, zB, zN, zQ, zR, zO, zP, zT, zS, zU, leT, zH, hS1, hZ1, hk1, bothL_ne, needleL_ne, bothL_len, needleL_len, zM, zZ, yC, yD, Int.neg_zero] <;> rfl)); (first | (focus (simp; done)) | (intro c hc; obtain ⟨x, _, rfl⟩ := List.mem_map.1 hc; rfl)); ((first | rfl | simp (disch := omega) only [push_cast])); ((try dsimp only); (try simp only [vC, bothL_len, needleL_len]); omega); ((try dsimp only); (try simp only [vC, bothL_len, needleL_len]); omega))
        | ((first | (apply jV cx_ok; decide) | (apply jW cx_ok; decide; decide)); (iterate 2 (simp (disch := (first | omega | (simp only [vC, bothL_len, needleL_len]; omega))) only [push_cast, simprocAttr, takeM, dropM, zK, zA, zB, zN, zQ, zR, zO, zP, zT, zS, zU, leT, zH, hS1, hZ1, hk1, bothL_ne, needleL_ne, bothL_len, needleL_len, zM, zZ, yC, yD, Int.neg_zero] <;> rfl)); (with_reducible first | exact rstrike_ok _ _ (by omega) | exact both_ok _ _ (by omega) ⟨by omega, by omega⟩ | exact needle_ok _ _ _ (by omega) (by omega) (by omega) (by omega) (by omega) (by omega) | exact least_ok _ _ _ hr (by omega) (by omega) (by omega)); try first | rfl | (simp (disch := (first | omega | (simp only [vC, bothL_len, needleL_len]; omega))) only [push_cast, simprocAttr, takeM, dropM, zK, zA, zB, zN, zQ, zR, zO, zP, zT, zS, zU, leT, zH, hS1, hZ1, hk1, bothL_ne, needleL_ne, bothL_len, needleL_len, zM, zZ, yC, yD, Int.neg_zero] <;> rfl))
        | ((first | apply jf | apply jg); (iterate 2 (try (simp (disch := (first | omega | (simp only [vC, bothL_len, needleL_len]; omega))) only [push_cast, simprocAttr, takeM, dropM, zK, zA, zB, zN, zQ, zR, zO, zP, zT, zS, zU, leT, zH, hS1, hZ1, hk1, bothL_ne, needleL_ne, bothL_len, needleL_len, zM, zZ, yC, yD, Int.neg_zero] <;> rfl))))
      refine AW.loop (fun n s => ∃ (k lw : Nat) (M : List Lk) (rest : List Strike), n = rest.length ∧ (r0.strikes.drop k = rest) ∧ (M ++ (ndL nd k rest ++ T3) = RES) ∧ (lw ≤ M.length) ∧ (M.length ≤ 43 + 2 * k) ∧ (k ≤ r0.strikes.length) ∧ 2 ≤ s.nx ∧ s.tm 2 = .ptr 0 0 0 1 ∧ s.tm 5 = lNode nd ∧ s.tm 6 = .ref 1 0 M.length ∧ s.tm 11 = ai k ∧ Pg.rowAt s.H (0) = some ({ k := 14, es := [eRec r0], ty := 30 }) ∧ Pg.rowAt s.H (1) = some ({ k := 3, es := M.map eLink, ty := 66, lo := lw })) (r0.strikes.length) ⟨0, M1.length + 2, (M1 ++ needleL nd 1 r0.s.zero), r0.strikes, rfl, rfl, (by rw [List.append_assoc]; exact hp11), (by simp [needleL_len]), (by simp [needleL_len]; omega), (Nat.zero_le _), ?_, ?_, ?_, ?_, ?_, ?_, ?_⟩ ?_
      iterate 7 (first | (simp (disch := omega) only [push_cast, simprocAttr, hS1, hZ1, hk1, bothL_ne, needleL_ne, bothL_len, needleL_len, zM, zZ, yC, yD, Int.neg_zero] <;> first | rfl | omega) | omega)
      rintro n2 s2 ⟨k2, lw2, M2, rest2, hn2, hp02, hp12, hp22, hp32, hp42, hnl2, hS2⟩
      have hZ2 : (0 : Nat) ≠ s2.nx ∧ s2.nx ≠ (0 : Nat) ∧ (1 : Nat) ≠ s2.nx ∧ s2.nx ≠ (1 : Nat) := by omega
      rcases rest2 with _ | ⟨st, rest2⟩
      · have hk2 := drop_nil hp02
        rw [← hT3] at hp12
        simp only [ndL, yA] at hp12
        repeat' first
          | apply jA | apply jB | apply jC | apply jD | apply jE | apply jF | apply jG | apply jH | apply jI | apply jJ
          | refine W.draw cx_mixed (by decide +kernel) ?_
          | ((first | (apply jK cx_ok; decide) | (apply jL cx_ok; decide; decide) | apply jR); (simp (disch := (first | omega | (simp only [vC, bothL_len, needleL_len]; omega))) only [push_cast, simprocAttr, takeM, dropM, zK, zA, zB, zN, zQ, zR, zO, zP, zT, zS, zU, leT, zH, hS2, hZ2, hk2, bothL_ne, needleL_ne, bothL_len, needleL_len, zM, zZ, yC, yD, Int.neg_zero] <;> rfl); all_goals try ((with_reducible intro hI); try first | (cases hI; done) | (simp only [INTS, zL] at hI; try first | (exfalso; omega) | (have hT : True := hI; clear hT hI))))
          | (apply jT cx_ok; decide; rfl; rfl; rfl; decide; (iterate 3 (simp (disch := (first | omega | (simp only [vC, bothL_len, needleL_len]; omega))) only [push_cast, simprocAttr, takeM, dropM, zK, zA, zB, zN, zQ, zR, zO, zP, zT, zS, zU, leT, zH, hS2, hZ2, hk2, bothL_ne, needleL_ne, bothL_len, needleL_len, zM, zZ, yC, yD, Int.neg_zero] <;> rfl)); (first | (focus (simp; done)) | (intro c hc; obtain ⟨x, _, rfl⟩ := List.mem_map.1 hc; rfl)); ((first | rfl | simp (disch := omega) only [push_cast])); ((try dsimp only); (try simp only [vC, bothL_len, needleL_len]); omega); ((try dsimp only); (try simp only [vC, bothL_len, needleL_len]); omega))
          | ((first | (apply jV cx_ok; decide) | (apply jW cx_ok; decide; decide)); (iterate 2 (simp (disch := (first | omega | (simp only [vC, bothL_len, needleL_len]; omega))) only [push_cast, simprocAttr, takeM, dropM, zK, zA, zB, zN, zQ, zR, zO, zP, zT, zS, zU, leT, zH, hS2, hZ2, hk2, bothL_ne, needleL_ne, bothL_len, needleL_len, zM, zZ, yC, yD, Int.neg_zero] <;> rfl)); (with_reducible first | exact rstrike_ok _ _ (by omega) | exact both_ok _ _ (by omega) ⟨by omega, by omega⟩ | exact needle_ok _ _ _ (by omega) (by omega) (by omega) (by omega) (by omega) (by omega) | exact least_ok _ _ _ hr (by omega) (by omega) (by omega)); try first | rfl | (simp (disch := (first | omega | (simp only [vC, bothL_len, needleL_len]; omega))) only [push_cast, simprocAttr, takeM, dropM, zK, zA, zB, zN, zQ, zR, zO, zP, zT, zS, zU, leT, zH, hS2, hZ2, hk2, bothL_ne, needleL_ne, bothL_len, needleL_len, zM, zZ, yC, yD, Int.neg_zero] <;> rfl))
          | ((first | apply jf | apply jg); (iterate 2 (try (simp (disch := (first | omega | (simp only [vC, bothL_len, needleL_len]; omega))) only [push_cast, simprocAttr, takeM, dropM, zK, zA, zB, zN, zQ, zR, zO, zP, zT, zS, zU, leT, zH, hS2, hZ2, hk2, bothL_ne, needleL_ne, bothL_len, needleL_len, zM, zZ, yC, yD, Int.neg_zero] <;> rfl))))
        refine AW.loop (fun n s => ∃ (j lw : Nat) (M : List Lk) (rest : List Int), n = rest.length ∧ (mk.drop j = rest) ∧ (M ++ pairsL r0.s (3 + r0.strikes.length + j) rest = RES) ∧ (lw ≤ M.length) ∧ (M.length ≤ 100 + 100 * j) ∧ (j ≤ mk.length) ∧ 2 ≤ s.nx ∧ s.tm 2 = .ptr 0 0 0 1 ∧ s.tm 5 = lNode nd ∧ s.tm 6 = .ref 1 0 M.length ∧ s.tm 12 = ai (3 + (r0.strikes.length : Int) + (j : Int)) ∧ Pg.rowAt s.H (0) = some ({ k := 14, es := [eRec r0], ty := 30 }) ∧ Pg.rowAt s.H (1) = some ({ k := 3, es := M.map eLink, ty := 66, lo := lw })) (mk.length) ⟨0, M2.length + 2, (M2 ++ needleL nd 2 r0.s.fin), mk, rfl, rfl, (by rw [List.append_assoc]; exact hp12), (by simp [needleL_len]), (by simp [needleL_len]; omega), (Nat.zero_le _), ?_, ?_, ?_, ?_, ?_, ?_, ?_⟩ ?_
        iterate 7 (first | (simp (disch := omega) only [push_cast, simprocAttr, hS2, hZ2, hk2, Int.add_assoc, Int.natCast_zero, Int.add_zero, bothL_ne, needleL_ne, bothL_len, needleL_len, zM, zZ, yC, yD, Int.neg_zero] <;> first | rfl | omega) | omega)
        rintro n3 s3 ⟨j3, lw3, M3, rest3, hn3, hp03, hp13, hp23, hp33, hp43, hnl3, hS3⟩
        have hZ3 : (0 : Nat) ≠ s3.nx ∧ s3.nx ≠ (0 : Nat) ∧ (1 : Nat) ≠ s3.nx ∧ s3.nx ≠ (1 : Nat) := by omega
        rcases rest3 with _ | ⟨x, rest3⟩
        · have hk3 := drop_nil hp03
          have hc3 : ¬ (3 + (r0.strikes.length : Int) + (j3 : Int) < (nd.length : Int)) := by omega
          simp only [pairsL, zZ] at hp13
          repeat' first
            | apply jA | apply jB | apply jC | apply jD | apply jE | apply jF | apply jG | apply jH | apply jI | apply jJ
            | refine W.draw cx_mixed (by decide +kernel) ?_
            | ((first | (apply jK cx_ok; decide) | (apply jL cx_ok; decide; decide) | apply jR); (simp (disch := (first | omega | (simp only [vC, bothL_len, needleL_len]; omega))) only [push_cast, simprocAttr, takeM, dropM, zK, zA, zB, zN, zQ, zR, zO, zP, zT, zS, zU, leT, zH, hS3, hZ3, hc3, bothL_ne, needleL_ne, bothL_len, needleL_len, zM, zZ, yC, yD, Int.neg_zero] <;> rfl); all_goals try ((with_reducible intro hI); try first | (cases hI; done) | (simp only [INTS, zL] at hI; try first | (exfalso; omega) | (have hT : True := hI; clear hT hI))))
            | (apply jT cx_ok; decide; rfl; rfl; rfl; decide; (iterate 3 (simp (disch := (first | omega | (simp only [vC, bothL_len, needleL_len]; omega))) only [push_cast, simprocAttr, takeM, dropM, zK, zA, zB, zN, zQ, zR, zO, zP, zT, zS, zU, leT, zH, hS3, hZ3, hc3, bothL_ne, needleL_ne, bothL_len, needleL_len, zM, zZ, yC, yD, Int.neg_zero] <;> rfl)); (first | (focus (simp; done)) | (intro c hc; obtain ⟨x, _, rfl⟩ := List.mem_map.1 hc; rfl)); ((first | rfl | simp (disch := omega) only [push_cast])); ((try dsimp only); (try simp only [vC, bothL_len, needleL_len]); omega); ((try dsimp only); (try simp only [vC, bothL_len, needleL_len]); omega))
            | ((first | apply jf | apply jg); (iterate 2 (try (simp (disch := (first | omega | (simp only [vC, bothL_len, needleL_len]; omega))) only [push_cast, simprocAttr, takeM, dropM, zK, zA, zB, zN, zQ, zR, zO, zP, zT, zS, zU, leT, zH, hS3, hZ3, hc3, bothL_ne, needleL_ne, bothL_len, needleL_len, zM, zZ, yC, yD, Int.neg_zero] <;> rfl))))
          all_goals (show _ = _; rw [← hp13])
        · obtain ⟨hk3, hg3, hd3, hl3, hm3, hx3⟩ := drop_cons hp03 eInt []
          have hxb := hbnd x hm3
          have hc3 : 3 + (r0.strikes.length : Int) + (j3 : Int) < (nd.length : Int) := by omega
          simp only [pairsL] at hp13
          repeat' first
            | apply jA | apply jB | apply jC | apply jD | apply jE | apply jF | apply jG | apply jH | apply jI | apply jJ
            | refine W.draw cx_mixed (by decide +kernel) ?_
            | ((first | (apply jK cx_ok; decide) | (apply jL cx_ok; decide; decide) | apply jR); (simp (disch := (first | omega | (simp only [vC, bothL_len, needleL_len]; omega))) only [push_cast, simprocAttr, takeM, dropM, zK, zA, zB, zN, zQ, zR, zO, zP, zT, zS, zU, leT, zH, hS3, hZ3, hc3, bothL_ne, needleL_ne, bothL_len, needleL_len, zM, zZ, yC, yD, Int.neg_zero] <;> rfl); all_goals try ((with_reducible intro hI); try first | (cases hI; done) | (simp only [INTS, zL] at hI; try first | (exfalso; omega) | (have hT : True := hI; clear hT hI))))
            | (apply jT cx_ok; decide; rfl; rfl; rfl; decide; (iterate 3 (simp (disch := (first | omega | (simp only [vC, bothL_len, needleL_len]; omega))) only [push_cast, simprocAttr, takeM, dropM, zK, zA, zB, zN, zQ, zR, zO, zP, zT, zS, zU, leT, zH, hS3, hZ3, hc3, bothL_ne, needleL_ne, bothL_len, needleL_len, zM, zZ, yC, yD, Int.neg_zero] <;> rfl)); (first | (focus (simp; done)) | (intro c hc; obtain ⟨x, _, rfl⟩ := List.mem_map.1 hc; rfl)); ((first | rfl | simp (disch := omega) only [push_cast])); ((try dsimp only); (try simp only [vC, bothL_len, needleL_len]); omega); ((try dsimp only); (try simp only [vC, bothL_len, needleL_len]); omega))
            | ((first | apply jf | apply jg); (iterate 2 (try (simp (disch := (first | omega | (simp only [vC, bothL_len, needleL_len]; omega))) only [push_cast, simprocAttr, takeM, dropM, zK, zA, zB, zN, zQ, zR, zO, zP, zT, zS, zU, leT, zH, hS3, hZ3, hc3, bothL_ne, needleL_ne, bothL_len, needleL_len, zM, zZ, yC, yD, Int.neg_zero] <;> rfl))))
          refine AW.loop (fun n s => ∃ (k lw : Nat) (M : List Lk) (rest : List Int), n = rest.length ∧ (mk.drop k = rest) ∧ (M ++ (pairL r0.s (3 + r0.strikes.length + j3) x (3 + r0.strikes.length + k) rest ++ pairsL r0.s (3 + r0.strikes.length + j3 + 1) rest3) = RES) ∧ (lw ≤ M.length) ∧ (M.length ≤ 100 + 100 * j3 + 2 * k) ∧ (k ≤ mk.length) ∧ (j3 < k) ∧ 2 ≤ s.nx ∧ s.tm 2 = .ptr 0 0 0 1 ∧ s.tm 5 = lNode nd ∧ s.tm 6 = .ref 1 0 M.length ∧ s.tm 12 = ai (3 + (r0.strikes.length : Int) + (j3 : Int)) ∧ s.tm 13 = ai (3 + (r0.strikes.length : Int) + (k : Int)) ∧ Pg.rowAt s.H (0) = some ({ k := 14, es := [eRec r0], ty := 30 }) ∧ Pg.rowAt s.H (1) = some ({ k := 3, es := M.map eLink, ty := 66, lo := lw })) (rest3.length) ⟨j3 + 1, lw3, M3, rest3, rfl, hd3, (by rw [show 3 + r0.strikes.length + (j3 + 1) = 3 + r0.strikes.length + j3 + 1 by omega]; exact hp13), hp23, (by omega), (by omega), (Nat.lt_succ_self _), ?_, ?_, ?_, ?_, ?_, ?_, ?_, ?_⟩ ?_
          iterate 8 (first | (simp (disch := omega) only [push_cast, simprocAttr, hS3, hZ3, hc3, Int.add_assoc, bothL_ne, needleL_ne, bothL_len, needleL_len, zM, zZ, yC, yD, Int.neg_zero] <;> first | rfl | omega) | omega)
          rintro n4 s4 ⟨k4, lw4, M4, rest4, hn4, hp04, hp14, hp24, hp34, hp44, hp54, hnl4, hS4⟩
          have hZ4 : (0 : Nat) ≠ s4.nx ∧ s4.nx ≠ (0 : Nat) ∧ (1 : Nat) ≠ s4.nx ∧ s4.nx ≠ (1 : Nat) := by omega
          rcases rest4 with _ | ⟨y, rest4⟩
          · have hk4 := drop_nil hp04
            have hc4 : ¬ (3 + (r0.strikes.length : Int) + (k4 : Int) < (nd.length : Int)) := by omega
            simp only [pairL, yA] at hp14
            have hk4m : k4 = mk.length := by have := List.drop_eq_nil_iff.1 hp04; omega
            repeat' first
              | apply jA | apply jB | apply jC | apply jD | apply jE | apply jF | apply jG | apply jH | apply jI | apply jJ
              | refine W.draw cx_mixed (by decide +kernel) ?_
              | ((first | (apply jK cx_ok; decide) | (apply jL cx_ok; decide; decide) | apply jR); (simp (disch := (first | omega | (simp only [vC, bothL_len, needleL_len]; omega))) only [push_cast, simprocAttr, takeM, dropM, zK, zA, zB, zN, zQ, zR, zO, zP, zT, zS, zU, leT, zH, hS4, hZ4, hc4, bothL_ne, needleL_ne, bothL_len, needleL_len, zM, zZ, yC, yD, Int.neg_zero] <;> rfl); all_goals try ((with_reducible intro hI); try first | (cases hI; done) | (simp only [INTS, zL] at hI; try first | (exfalso; omega) | (have hT : True := hI; clear hT hI))))
              | (apply jT cx_ok; decide; rfl; rfl; rfl; decide; (iterate 3 (simp (disch := (first | omega | (simp only [vC, bothL_len, needleL_len]; omega))) only [push_cast, simprocAttr, takeM, dropM, zK, zA, zB, zN, zQ, zR, zO, zP, zT, zS, zU, leT, zH, hS4, hZ4, hc4, bothL_ne, needleL_ne, bothL_len, needleL_len, zM, zZ, yC, yD, Int.neg_zero] <;> rfl)); (first | (focus (simp; done)) | (intro c hc; obtain ⟨x, _, rfl⟩ := List.mem_map.1 hc; rfl)); ((first | rfl | simp (disch := omega) only [push_cast])); ((try dsimp only); (try simp only [vC, bothL_len, needleL_len]); omega); ((try dsimp only); (try simp only [vC, bothL_len, needleL_len]); omega))
              | ((first | apply jf | apply jg); (iterate 2 (try (simp (disch := (first | omega | (simp only [vC, bothL_len, needleL_len]; omega))) only [push_cast, simprocAttr, takeM, dropM, zK, zA, zB, zN, zQ, zR, zO, zP, zT, zS, zU, leT, zH, hS4, hZ4, hc4, bothL_ne, needleL_ne, bothL_len, needleL_len, zM, zZ, yC, yD, Int.neg_zero] <;> rfl))))
            all_goals (refine ⟨rest3.length, ?_, j3 + 1, lw4, M4, rest3, rfl, hd3, (by rw [show 3 + r0.strikes.length + (j3 + 1) = 3 + r0.strikes.length + j3 + 1 by omega]; exact hp14), hp24, (by omega), (by omega), ?_, ?_, ?_, ?_, ?_, ?_, ?_⟩; ((simp only [zD] at *; omega)); all_goals first | (simp (disch := omega) only [push_cast, simprocAttr, hS4, hZ4, hc4, Int.add_assoc, bothL_ne, needleL_ne, bothL_len, needleL_len, zM, zZ, yC, yD, Int.neg_zero] <;> first | rfl | omega) | omega)
          · obtain ⟨hk4, hg4, hd4, hl4, hm4, hx4⟩ := drop_cons hp04 eInt []
            have hyb := hbnd y hm4
            have hxy := srt_lt hsrt hp03 hp04 hp54
            have hc4 : 3 + (r0.strikes.length : Int) + (k4 : Int) < (nd.length : Int) := by omega
            have p3 : (0 : Int) ≤ 3 + (r0.strikes.length : Int) + (j3 : Int) := by omega
            have p4 : (0 : Int) ≤ 3 + (r0.strikes.length : Int) + (k4 : Int) := by omega
            have t3 : (3 + (r0.strikes.length : Int) + (j3 : Int)).toNat = 3 + r0.strikes.length + j3 := by omega
            have t4 : (3 + (r0.strikes.length : Int) + (k4 : Int)).toNat = 3 + r0.strikes.length + k4 := by omega
            have e3 : (nd.map eNode).getD (3 + (r0.strikes.length + j3)) [] = [ai 4, ai x] := by
              rw [← Nat.add_assoc, getD_map eNode nd _ [] default (by omega), hnode j3 (by omega), (drop_get hp03).1]
            have e4 : (nd.map eNode).getD (3 + (r0.strikes.length + k4)) [] = [ai 4, ai y] := by
              rw [← Nat.add_assoc, getD_map eNode nd _ [] default (by omega), hnode k4 (by omega), (drop_get hp04).1]
            have g3 : (nd.map eNode)[3 + (r0.strikes.length + j3)]? = some [ai 4, ai x] := by
              rw [← Nat.add_assoc, get_map eNode nd _ default (by omega), hnode j3 (by omega), (drop_get hp03).1]
            have g4 : (nd.map eNode)[3 + (r0.strikes.length + k4)]? = some [ai 4, ai y] := by
              rw [← Nat.add_assoc, get_map eNode nd _ default (by omega), hnode k4 (by omega), (drop_get hp04).1]
            obtain ⟨b1, b2, b3, b4⟩ := leastR_bound r0.s x y hr (by omega) (by omega) (by omega)
            simp only [pairL, yB] at hp14
            have hq14 : (M4 ++ [⟨3 + r0.strikes.length + j3, 3 + r0.strikes.length + k4, (leastR r0.s x y).2⟩, ⟨3 + r0.strikes.length + k4, 3 + r0.strikes.length + j3, -(leastR r0.s x y).1⟩]) ++ (pairL r0.s (3 + r0.strikes.length + j3) x (3 + r0.strikes.length + (k4 + 1)) rest4 ++ pairsL r0.s (3 + r0.strikes.length + j3 + 1) rest3) = RES := by
              rw [show 3 + r0.strikes.length + (k4 + 1) = 3 + r0.strikes.length + k4 + 1 by omega, List.append_assoc]; exact hp14
            obtain ⟨q, hq⟩ : ∃ z, leastR r0.s x y = z := ⟨_, rfl⟩
            rw [hq] at b1 b2 b3 b4 hq14
            repeat' first
              | apply jA | apply jB | apply jC | apply jD | apply jE | apply jF | apply jG | apply jH | apply jI | apply jJ
              | refine W.draw cx_mixed (by decide +kernel) ?_
              | ((first | (apply jK cx_ok; decide) | (apply jL cx_ok; decide; decide) | apply jR); (simp (disch := (first | omega | (simp only [vC, bothL_len, needleL_len]; omega))) only [push_cast, simprocAttr, takeM, dropM, zK, zA, zB, zN, zQ, zR, zO, zP, zT, zS, zU, leT, zH, hS4, hZ4, hc3, hc4, p3, p4, t3, t4, e3, e4, g3, g4, hq, bothL_ne, needleL_ne, bothL_len, needleL_len, zM, zZ, yC, yD, Int.neg_zero] <;> rfl); all_goals try ((with_reducible intro hI); try first | (cases hI; done) | (simp only [INTS, zL] at hI; try first | (exfalso; omega) | (have hT : True := hI; clear hT hI))))
              | (apply jT cx_ok; decide; rfl; rfl; rfl; decide; (iterate 3 (simp (disch := (first | omega | (simp only [vC, bothL_len, needleL_len]; omega))) only [push_cast, simprocAttr, takeM, dropM, zK, zA, zB, zN, zQ, zR, zO, zP, zT, zS, zU, leT, zH, hS4, hZ4, hc3, hc4, p3, p4, t3, t4, e3, e4, g3, g4, hq, bothL_ne, needleL_ne, bothL_len, needleL_len, zM, zZ, yC, yD, Int.neg_zero] <;> rfl)); (first | (focus (simp; done)) | (intro c hc; obtain ⟨x, _, rfl⟩ := List.mem_map.1 hc; rfl)); ((first | rfl | simp (disch := omega) only [push_cast])); ((try dsimp only); (try simp only [vC, bothL_len, needleL_len]); omega); ((try dsimp only); (try simp only [vC, bothL_len, needleL_len]); omega))
              | ((first | (apply jV cx_ok; decide) | (apply jW cx_ok; decide; decide)); (iterate 2 (simp (disch := (first | omega | (simp only [vC, bothL_len, needleL_len]; omega))) only [push_cast, simprocAttr, takeM, dropM, zK, zA, zB, zN, zQ, zR, zO, zP, zT, zS, zU, leT, zH, hS4, hZ4, hc3, hc4, p3, p4, t3, t4, e3, e4, g3, g4, hq, bothL_ne, needleL_ne, bothL_len, needleL_len, zM, zZ, yC, yD, Int.neg_zero] <;> rfl)); (with_reducible first | exact rstrike_ok _ _ (by omega) | exact both_ok _ _ (by omega) ⟨by omega, by omega⟩ | exact needle_ok _ _ _ (by omega) (by omega) (by omega) (by omega) (by omega) (by omega) | exact least_ok _ _ _ hr (by omega) (by omega) (by omega)); try first | rfl | (simp (disch := (first | omega | (simp only [vC, bothL_len, needleL_len]; omega))) only [push_cast, simprocAttr, takeM, dropM, zK, zA, zB, zN, zQ, zR, zO, zP, zT, zS, zU, leT, zH, hS4, hZ4, hc3, hc4, p3, p4, t3, t4, e3, e4, g3, g4, hq, bothL_ne, needleL_ne, bothL_len, needleL_len, zM, zZ, yC, yD, Int.neg_zero] <;> rfl))
              | ((first | apply jf | apply jg); (iterate 2 (try (simp (disch := (first | omega | (simp only [vC, bothL_len, needleL_len]; omega))) only [push_cast, simprocAttr, takeM, dropM, zK, zA, zB, zN, zQ, zR, zO, zP, zT, zS, zU, leT, zH, hS4, hZ4, hc3, hc4, p3, p4, t3, t4, e3, e4, g3, g4, hq, bothL_ne, needleL_ne, bothL_len, needleL_len, zM, zZ, yC, yD, Int.neg_zero] <;> rfl))))
            all_goals (refine ⟨rest4.length, ?_, k4 + 1, M4.length + 2, (M4 ++ [⟨3 + r0.strikes.length + j3, 3 + r0.strikes.length + k4, q.2⟩, ⟨3 + r0.strikes.length + k4, 3 + r0.strikes.length + j3, -q.1⟩]), rest4, rfl, hd4, hq14, (by simp), (by simp; omega), (by omega), (by omega), ?_, ?_, ?_, ?_, ?_, ?_, ?_, ?_⟩; ((simp only [zD] at *; omega)); all_goals first | (simp (disch := omega) only [push_cast, simprocAttr, hS4, hZ4, Int.add_assoc, bothL_ne, needleL_ne, bothL_len, needleL_len, zM, zZ, yC, yD, Int.neg_zero] <;> first | rfl | omega) | omega)
      · obtain ⟨hk2, hg2, hd2, hl2, hm2, hx2⟩ := drop_cons hp02 eStrike []
        have hsb := hv.strikes st hm2
        obtain ⟨hs1, hs2⟩ := hms1 st hm2
        have e3 : (3 + (k2 : Int)).toNat = 3 + k2 := by omega
        simp only [ndL, List.append_assoc] at hp12
        rw [← List.append_assoc] at hp12
        repeat' first
          | apply jA | apply jB | apply jC | apply jD | apply jE | apply jF | apply jG | apply jH | apply jI | apply jJ
          | refine W.draw cx_mixed (by decide +kernel) ?_
          | ((first | (apply jK cx_ok; decide) | (apply jL cx_ok; decide; decide) | apply jR); (simp (disch := (first | omega | (simp only [vC, bothL_len, needleL_len]; omega))) only [push_cast, simprocAttr, takeM, dropM, zK, zA, zB, zN, zQ, zR, zO, zP, zT, zS, zU, leT, zH, hS2, hZ2, hk2, hg2, hx2, e3, bothL_ne, needleL_ne, bothL_len, needleL_len, zM, zZ, yC, yD, Int.neg_zero] <;> rfl); all_goals try ((with_reducible intro hI); try first | (cases hI; done) | (simp only [INTS, zL] at hI; try first | (exfalso; omega) | (have hT : True := hI; clear hT hI))))
          | (apply jT cx_ok; decide; rfl; rfl; rfl; decide; (iterate 3 (simp (disch := (first | omega | (simp only [vC, bothL_len, needleL_len]; omega))) only [push_cast, simprocAttr, takeM, dropM, zK, zA, zB, zN, zQ, zR, zO, zP, zT, zS, zU, leT, zH, hS2, hZ2, hk2, hg2, hx2, e3, bothL_ne, needleL_ne, bothL_len, needleL_len, zM, zZ, yC, yD, Int.neg_zero] <;> rfl)); (first | (focus (simp; done)) | (intro c hc; obtain ⟨x, _, rfl⟩ := List.mem_map.1 hc; rfl)); ((first | rfl | simp (disch := omega) only [push_cast])); ((try dsimp only); (try simp only [vC, bothL_len, needleL_len]); omega); ((try dsimp only); (try simp only [vC, bothL_len, needleL_len]); omega))
          | ((first | (apply jV cx_ok; decide) | (apply jW cx_ok; decide; decide)); (iterate 2 (simp (disch := (first | omega | (simp only [vC, bothL_len, needleL_len]; omega))) only [push_cast, simprocAttr, takeM, dropM, zK, zA, zB, zN, zQ, zR, zO, zP, zT, zS, zU, leT, zH, hS2, hZ2, hk2, hg2, hx2, e3, bothL_ne, needleL_ne, bothL_len, needleL_len, zM, zZ, yC, yD, Int.neg_zero] <;> rfl)); (with_reducible first | exact rstrike_ok _ _ (by omega) | exact both_ok _ _ (by omega) ⟨by omega, by omega⟩ | exact needle_ok _ _ _ (by omega) (by omega) (by omega) (by omega) (by omega) (by omega) | exact least_ok _ _ _ hr (by omega) (by omega) (by omega)); try first | rfl | (simp (disch := (first | omega | (simp only [vC, bothL_len, needleL_len]; omega))) only [push_cast, simprocAttr, takeM, dropM, zK, zA, zB, zN, zQ, zR, zO, zP, zT, zS, zU, leT, zH, hS2, hZ2, hk2, hg2, hx2, e3, bothL_ne, needleL_ne, bothL_len, needleL_len, zM, zZ, yC, yD, Int.neg_zero] <;> rfl))
          | ((first | apply jf | apply jg); (iterate 2 (try (simp (disch := (first | omega | (simp only [vC, bothL_len, needleL_len]; omega))) only [push_cast, simprocAttr, takeM, dropM, zK, zA, zB, zN, zQ, zR, zO, zP, zT, zS, zU, leT, zH, hS2, hZ2, hk2, hg2, hx2, e3, bothL_ne, needleL_ne, bothL_len, needleL_len, zM, zZ, yC, yD, Int.neg_zero] <;> rfl))))
        all_goals (refine ⟨rest2.length, ?_, k2 + 1, M2.length + 2, (M2 ++ needleL nd (3 + k2) st.pos), rest2, rfl, hd2, hp12, (by simp [needleL_len]), (by simp [needleL_len]; omega), (by omega), ?_, ?_, ?_, ?_, ?_, ?_, ?_⟩; ((simp only [zD] at *; omega)); all_goals first | (simp (disch := omega) only [push_cast, simprocAttr, hS2, hZ2, hk2, hg2, hx2, e3, bothL_ne, needleL_ne, bothL_len, needleL_len, zM, zZ, yC, yD, Int.neg_zero] <;> first | rfl | omega) | omega)
  · obtain ⟨hk, hg, hd', hl', hm, hx⟩ := drop_cons hp0 eSight []
    have hsg := hv.sights sg hm
    have hI0 := strikeI_lt (n := sg.strike) (l := r0.strikes) (k := r0.strikes.length) (by rw [List.take_length]; exact hsg.2.2.2)
    obtain ⟨I0, hI⟩ : ∃ z, strikeI sg.strike 0 r0.strikes = z := ⟨_, rfl⟩
    simp only [sgL, List.append_assoc] at hp1
    rw [← List.append_assoc, hI] at hp1
    rw [hI] at hI0
    repeat' first
      | apply jA | apply jB | apply jC | apply jD | apply jE | apply jF | apply jG | apply jH | apply jI | apply jJ
      | refine AW.draw (id := 6) cx_mixed [18, 19] [] [] 0 (by decide +kernel) ?_
      | refine W.draw cx_mixed (by decide +kernel) ?_
      | ((first | (apply jK cx_ok; decide) | (apply jL cx_ok; decide; decide) | apply jR); (simp (disch := (first | omega | (simp only [vC, bothL_len, needleL_len]; omega))) only [push_cast, simprocAttr, takeM, dropM, zK, zA, zB, zN, zQ, zR, zO, zP, zT, zS, zU, leT, zH, hS, hZ, hk, hg, hx, hI, bothL_ne, needleL_ne, bothL_len, needleL_len, zM, zZ, yC, yD, Int.neg_zero] <;> rfl); all_goals try ((with_reducible intro hI); try first | (cases hI; done) | (simp only [INTS, zL] at hI; try first | (exfalso; omega) | (have hT : True := hI; clear hT hI))))
      | ((first | (apply ja cx_ok; decide) | (apply jb cx_ok; decide; decide) | (apply jc cx_ok; decide; decide)); (simp (disch := (first | omega | (simp only [vC, bothL_len, needleL_len]; omega))) only [push_cast, simprocAttr, takeM, dropM, zK, zA, zB, zN, zQ, zR, zO, zP, zT, zS, zU, leT, zH, hS, hZ, hk, hg, hx, hI, bothL_ne, needleL_ne, bothL_len, needleL_len, zM, zZ, yC, yD, Int.neg_zero] <;> rfl); try first | exact .inl rfl | exact .inr (by simp))
      | ((apply jY cx_ok; decide; decide); (simp (disch := (first | omega | (simp only [vC, bothL_len, needleL_len]; omega))) only [push_cast, simprocAttr, takeM, dropM, zK, zA, zB, zN, zQ, zR, zO, zP, zT, zS, zU, leT, zH, hS, hZ, hk, hg, hx, hI, bothL_ne, needleL_ne, bothL_len, needleL_len, zM, zZ, yC, yD, Int.neg_zero] <;> rfl); first | exact .inl rfl | exact .inr (by simp))
      | (apply jT cx_ok; decide; rfl; rfl; rfl; decide; (iterate 3 (simp (disch := (first | omega | (simp only [vC, bothL_len, needleL_len]; omega))) only [push_cast, simprocAttr, takeM, dropM, zK, zA, zB, zN, zQ, zR, zO, zP, zT, zS, zU, leT, zH, hS, hZ, hk, hg, hx, hI, bothL_ne, needleL_ne, bothL_len, needleL_len, zM, zZ, yC, yD, Int.neg_zero] <;> rfl)); (first | (focus (simp; done)) | (intro c hc; obtain ⟨x, _, rfl⟩ := List.mem_map.1 hc; rfl)); ((first | rfl | simp (disch := omega) only [push_cast])); ((try dsimp only); (try simp only [vC, bothL_len, needleL_len]); omega); ((try dsimp only); (try simp only [vC, bothL_len, needleL_len]); omega))
      | (apply jU cx_ok; decide; decide; rfl; rfl; rfl; decide; (iterate 3 (simp (disch := (first | omega | (simp only [vC, bothL_len, needleL_len]; omega))) only [push_cast, simprocAttr, takeM, dropM, zK, zA, zB, zN, zQ, zR, zO, zP, zT, zS, zU, leT, zH, hS, hZ, hk, hg, hx, hI, bothL_ne, needleL_ne, bothL_len, needleL_len, zM, zZ, yC, yD, Int.neg_zero] <;> rfl)); (first | (focus (simp; done)) | (intro c hc; obtain ⟨x, _, rfl⟩ := List.mem_map.1 hc; rfl)); ((first | rfl | (simp (disch := omega) only [push_cast]; done))); ((try dsimp only); (try simp only [vC, bothL_len, needleL_len]); omega); ((try dsimp only); (try simp only [vC, bothL_len, needleL_len]); omega); first | exact .inl rfl | exact .inr (by simp))
      | ((first | (apply jV cx_ok; decide) | (apply jW cx_ok; decide; decide) | (apply jX cx_ok; decide; decide)); (iterate 2 (simp (disch := (first | omega | (simp only [vC, bothL_len, needleL_len]; omega))) only [push_cast, simprocAttr, takeM, dropM, zK, zA, zB, zN, zQ, zR, zO, zP, zT, zS, zU, leT, zH, hS, hZ, hk, hg, hx, hI, bothL_ne, needleL_ne, bothL_len, needleL_len, zM, zZ, yC, yD, Int.neg_zero] <;> rfl)); (with_reducible first | exact rstrike_ok _ _ (by omega) | exact both_ok _ _ (by omega) ⟨by omega, by omega⟩ | exact needle_ok _ _ _ (by omega) (by omega) (by omega) (by omega) (by omega) (by omega) | exact least_ok _ _ _ hr (by omega) (by omega) (by omega)); try first | rfl | (simp (disch := (first | omega | (simp only [vC, bothL_len, needleL_len]; omega))) only [push_cast, simprocAttr, takeM, dropM, zK, zA, zB, zN, zQ, zR, zO, zP, zT, zS, zU, leT, zH, hS, hZ, hk, hg, hx, hI, bothL_ne, needleL_ne, bothL_len, needleL_len, zM, zZ, yC, yD, Int.neg_zero] <;> rfl))
      | ((first | apply jf | apply jg); (iterate 2 (try (simp (disch := (first | omega | (simp only [vC, bothL_len, needleL_len]; omega))) only [push_cast, simprocAttr, takeM, dropM, zK, zA, zB, zN, zQ, zR, zO, zP, zT, zS, zU, leT, zH, hS, hZ, hk, hg, hx, hI, bothL_ne, needleL_ne, bothL_len, needleL_len, zM, zZ, yC, yD, Int.neg_zero] <;> rfl))))
    all_goals (refine ⟨rest.length, ?_, k + 1, M.length + 2, (M ++ bothL (3 + I0).toNat sg.seen), rest, rfl, hd', hp1, (by simp [bothL_len]), (by simp [bothL_len]; omega), (by omega), ?_, ?_, ?_, ?_, ?_, ?_, ?_⟩; ((simp only [zD] at *; omega)); all_goals first | (simp (disch := omega) only [push_cast, simprocAttr, hS, hZ, hk, hg, hx, hI, bothL_ne, needleL_ne, bothL_len, needleL_len, zM, zZ, yC, yD, Int.neg_zero] <;> first | rfl | omega) | omega)
end Go.Proofs.Ks
