/-
  Contracts of functions, proved by going through their code. No conditions.
-/
import Derived.Test.YtdlflcambboojaaVaa
import Derived.Test.YtdlflcambboojaaVbb
import Derived.Test.YtdlflcambboojaaN8KuA
set_option linter.unusedVariables false
set_option linter.unusedSimpArgs false
set_option maxHeartbeats 8000000
set_option maxRecDepth 10000
namespace Go.Proofs.Ks
open Go Go.Pg Go.Proofs
theorem RWithout_ok (r : Rec) (ids : List Int) (hi : ids.length ≤ 1000000) (hsk : r.strikes.length ≤ 1000000) (hsg : r.sights.length ≤ 1000000) : OKv cx 39 [.agg (eRec r), lInt ids] (.agg (eRec (withoutR r ids))) := by
  obtain ⟨PS, hPS⟩ : ∃ f, (fun x : Strike => !ids.contains x.id) = f := ⟨_, rfl⟩
  obtain ⟨PT, hPT⟩ : ∃ f, (fun x : Sight => !ids.contains x.strike) = f := ⟨_, rfl⟩
  obtain ⟨SS, hSS⟩ : ∃ z, r.strikes.filter PS = z := ⟨_, rfl⟩
  obtain ⟨TT, hTT⟩ : ∃ z, r.sights.filter PT = z := ⟨_, rfl⟩
  have hR : withoutR r ids = { s := r.s, strikes := SS, sights := TT } := by unfold withoutR; rw [hPS, hPT, hSS, hTT]
  have hPSe : ∀ x, PS x = !ids.contains x.id := fun x => by rw [← hPS]
  have hPTe : ∀ x, PT x = !ids.contains x.strike := fun x => by rw [← hPT]
  rw [hR]
  clear hR hPS hPT
  have hin := fun x => in_ok ids x (by omega)
  refine OKat.of_bodyM cx_ok (rs := [.cell 4 30]) Try.func39 rfl (by decide +kernel) rfl (by simp [Try.ntmps39]) ?_
  simp only [Try.ntmps39]
  obtain ⟨Z1, hZ1⟩ : ∃ z, ([.v (.int .i64 0), .v (.int .i64 0), .v (.int .i64 0), .v (.int .i64 0), .v (.int .i64 0), .v (.int .i64 0), .v (.int .i64 0), .v (.int .i64 0), .v (.int .i64 0), .v (.int .i64 0), .v (.int .i64 0), .v (.slice none 0 0), .v (.slice none 0 0), .v (.slice none 0 0)] : List AV) = z := ⟨_, rfl⟩
  repeat' first
    | apply jA | apply jB | apply jC | apply jD | apply jE | apply jF | apply jG | apply jH | apply jI | apply jJ
    | refine W.draw cx_mixed (by decide +kernel) ?_
    | ((first | (apply jK cx_ok; decide) | (apply jL cx_ok; decide; decide) | apply jM cx_ok | apply jR); (simp (disch := (first | omega | (simp only [vC]; omega))) only [push_cast, simprocAttr, takeM, dropM, zK, zA, zB, zN, zQ, zR, zO, zP, zT, zS, zU, leT, zH, natNe, zI, zG, zJ, isEmpty_map, zV, zW, zC, zM] <;> rfl); all_goals try ((with_reducible intro hI); try first | (cases hI; done) | (simp only [INTS, zL] at hI; try first | (exfalso; omega) | (have hT : True := hI; clear hT hI))))
    | (apply jT cx_ok; decide; rfl; rfl; rfl; decide; (iterate 3 (simp (disch := (first | omega | (simp only [vC]; omega))) only [push_cast, simprocAttr, takeM, dropM, zK, zA, zB, zN, zQ, zR, zO, zP, zT, zS, zU, leT, zH, natNe, zI, zG, zJ, isEmpty_map, zV, zW, zC, zM] <;> rfl)); (first | (focus (simp; done)) | (intro c hc; obtain ⟨x, _, rfl⟩ := List.mem_map.1 hc; rfl)); ((first | rfl | simp (disch := omega) only [push_cast])); ((try dsimp only); (try simp only [vC]); omega); ((try dsimp only); (try simp only [vC]); omega))
    | ((first | apply jl | apply jm); (iterate 2 (try (simp (disch := (first | omega | (simp only [vC]; omega))) only [push_cast, simprocAttr, takeM, dropM, zK, zA, zB, zN, zQ, zR, zO, zP, zT, zS, zU, leT, zH, natNe, zI, zG, zJ, isEmpty_map, zV, zW, zC, zM] <;> rfl))))

  refine AW.adoptCell 2 0 12 3 60 (r := { k := 14, es := [[ai r.s.id, ai r.s.inn.lo, ai r.s.inn.hi, ai r.s.out.lo, ai r.s.out.hi, ai r.s.zero.lo, ai r.s.zero.hi, ai r.s.fin.lo, ai r.s.fin.hi, ai r.s.rate.lo, ai r.s.rate.hi, lStop r.s.stops, .v (.slice none 0 0), .v (.slice none 0 0)]], ty := 30 }) (by simp (disch := omega) only [push_cast, simprocAttr, natNe, zI, zG, zJ, isEmpty_map, zV, zW, zC, zM] <;> rfl) rfl ?_
  refine AW.adoptCell 2 0 13 3 53 (r := { k := 14, es := [[ai r.s.id, ai r.s.inn.lo, ai r.s.inn.hi, ai r.s.out.lo, ai r.s.out.hi, ai r.s.zero.lo, ai r.s.zero.hi, ai r.s.fin.lo, ai r.s.fin.hi, ai r.s.rate.lo, ai r.s.rate.hi, lStop r.s.stops, .ref 3 0 0, .v (.slice none 0 0)]], ty := 30 }) (by simp (disch := omega) only [push_cast, simprocAttr, natNe, zI, zG, zJ, isEmpty_map, zV, zW, zC, zM] <;> rfl) rfl ?_
  refine AW.loop (fun n s => ∃ (k : Nat) (O : List Strike) (rest : List Strike), n = rest.length ∧ (r.strikes.drop k = rest) ∧ (O ++ rest.filter PS = SS) ∧ (O.length ≤ k) ∧ (k ≤ r.strikes.length) ∧ 5 ≤ s.nx ∧ s.tm 1 = lInt ids ∧ s.tm 2 = .ptr 0 0 0 1 ∧ s.tm 4 = .ptr 1 0 0 1 ∧ s.tm 5 = .ptr 2 0 0 1 ∧ s.tm 6 = ai k ∧ Pg.rowAt s.H 0 = some { k := 14, es := [eRec r], ty := 30 } ∧ Pg.rowAt s.H 1 = some { k := 14, es := [Z1], ty := 30 } ∧ Pg.rowAt s.H 2 = some { k := 14, es := [[ai r.s.id, ai r.s.inn.lo, ai r.s.inn.hi, ai r.s.out.lo, ai r.s.out.hi, ai r.s.zero.lo, ai r.s.zero.hi, ai r.s.fin.lo, ai r.s.fin.hi, ai r.s.rate.lo, ai r.s.rate.hi, lStop r.s.stops, .ref 3 0 O.length, .ref 4 0 ([] : List Sight).length]], ty := 30 } ∧ Pg.rowAt s.H 3 = some { k := 3, es := O.map eStrike, ty := 60, lo := O.length } ∧ Pg.rowAt s.H 4 = some { k := 3, es := ([] : List Sight).map eSight, ty := 53, lo := 0 }) (r.strikes.length) ⟨0, [], r.strikes, rfl, rfl, (by rw [hSS]; rfl), (Nat.zero_le _), (Nat.zero_le _), ?_, ?_, ?_, ?_, ?_, ?_, ?_, ?_, ?_, ?_, ?_⟩ ?_
  iterate 11 (first | (simp (disch := omega) only [push_cast, simprocAttr, natNe, zI, zG, zJ, isEmpty_map, zV, zW, zC, zM, hZ1] <;> first | rfl | omega) | omega)
  rintro n2 s2 ⟨k2, O2, rest2, hn2, hp02, hp12, hp22, hp32, hnl2, hS2⟩
  rcases rest2 with _ | ⟨x, rest2⟩
  rotate_left
  · obtain ⟨hk2, hg2, hd2, hl2, hm2, hx2⟩ := drop_cons hp02 eStrike []
    have hc := hin x.id
    rw [List.filter_cons, hPSe] at hp12
    cases hq : ids.contains x.id with
    | true =>
      rw [hq] at hc
      rw [hq, if_neg (by decide)] at hp12
      repeat' first
        | apply jA | apply jB | apply jC | apply jD | apply jE | apply jF | apply jG | apply jH | apply jI | apply jJ
        | refine W.draw cx_mixed (by decide +kernel) ?_
        | ((first | (apply jK cx_ok; decide) | (apply jL cx_ok; decide; decide) | apply jM cx_ok | apply jR); (simp (disch := (first | omega | (simp only [vC]; omega))) only [push_cast, simprocAttr, takeM, dropM, zK, zA, zB, zN, zQ, zR, zO, zP, zT, zS, zU, leT, zH, hS2, natNe, zI, zG, zJ, isEmpty_map, zV, zW, zC, zM, hk2, hg2, hx2] <;> rfl); all_goals try ((with_reducible intro hI); try first | (cases hI; done) | (simp only [INTS, zL] at hI; try first | (exfalso; omega) | (have hT : True := hI; clear hT hI))))
        | (apply jT cx_ok; decide; rfl; rfl; rfl; decide; (iterate 3 (simp (disch := (first | omega | (simp only [vC]; omega))) only [push_cast, simprocAttr, takeM, dropM, zK, zA, zB, zN, zQ, zR, zO, zP, zT, zS, zU, leT, zH, hS2, natNe, zI, zG, zJ, isEmpty_map, zV, zW, zC, zM, hk2, hg2, hx2] <;> rfl)); (first | (focus (simp; done)) | (intro c hc; obtain ⟨x, _, rfl⟩ := List.mem_map.1 hc; rfl)); ((first | rfl | simp (disch := omega) only [push_cast])); ((try dsimp only); (try simp only [vC]); omega); ((try dsimp only); (try simp only [vC]); omega))
        | ((first | (apply jV cx_ok; decide) | (apply jW cx_ok; decide; decide)); (iterate 2 (simp (disch := (first | omega | (simp only [vC]; omega))) only [push_cast, simprocAttr, takeM, dropM, zK, zA, zB, zN, zQ, zR, zO, zP, zT, zS, zU, leT, zH, hS2, natNe, zI, zG, zJ, isEmpty_map, zV, zW, zC, zM, hk2, hg2, hx2] <;> rfl)); (with_reducible first | exact hc); try first | rfl | (simp (disch := (first | omega | (simp only [vC]; omega))) only [push_cast, simprocAttr, takeM, dropM, zK, zA, zB, zN, zQ, zR, zO, zP, zT, zS, zU, leT, zH, hS2, natNe, zI, zG, zJ, isEmpty_map, zV, zW, zC, zM, hk2, hg2, hx2] <;> rfl))
        | ((first | apply jl | apply jm); (iterate 2 (try (simp (disch := (first | omega | (simp only [vC]; omega))) only [push_cast, simprocAttr, takeM, dropM, zK, zA, zB, zN, zQ, zR, zO, zP, zT, zS, zU, leT, zH, hS2, natNe, zI, zG, zJ, isEmpty_map, zV, zW, zC, zM, hk2, hg2, hx2] <;> rfl))))

      all_goals (refine ⟨rest2.length, ?_, k2 + 1, O2, rest2, rfl, hd2, hp12, (by omega), (by omega), ?_, ?_, ?_, ?_, ?_, ?_, ?_, ?_, ?_, ?_, ?_⟩; ((simp only [zD] at *; omega)); all_goals first | (simp (disch := omega) only [push_cast, simprocAttr, hS2, natNe, zI, zG, zJ, isEmpty_map, zV, zW, zC, zM, hk2, hg2, hx2] <;> first | rfl | omega) | omega)
    | false =>
      rw [hq] at hc
      rw [hq, if_pos (by decide)] at hp12
      repeat' first
        | ((apply D.buildL cx_ok; decide; decide); (iterate 3 (simp (maxSteps := 1000000) (disch := (first | omega | (simp only [vC]; omega))) only [push_cast, simprocAttr, takeM, dropM, zK, zA, zB, zN, zQ, zR, zO, zP, zT, zS, zU, leT, zH, natNe, zI, zG, zJ, hS2, isEmpty_map, zV, zW, zC, zM, zY, zX, zE, zD, Nat.zero_add, hk2, hg2, hx2, pur, ite_true] <;> rfl)); exact Nat.zero_le _)
        | apply jA | apply jB | apply jC | apply jD | apply jE | apply jF | apply jG | apply jH | apply jI | apply jJ
        | refine AW.draw (id := 6) cx_mixed [8, 10] [7, 9] [3, 2] 0 (by decide +kernel) ?_
        | refine W.draw cx_mixed (by decide +kernel) ?_
        | ((first | (apply jK cx_ok; decide) | (apply jL cx_ok; decide; decide) | apply jM cx_ok | apply jR); (simp (maxSteps := 1000000) (disch := (first | omega | (simp only [vC]; omega))) only [push_cast, simprocAttr, takeM, dropM, zK, zA, zB, zN, zQ, zR, zO, zP, zT, zS, zU, leT, zH, natNe, zI, zG, zJ, hS2, isEmpty_map, zV, zW, zC, zM, zY, zX, zE, zD, Nat.zero_add, hk2, hg2, hx2] <;> rfl); all_goals try ((with_reducible intro hI); try first | (cases hI; done) | (simp only [INTS, zL] at hI; try first | (exfalso; omega) | (have hT : True := hI; clear hT hI))))
        | ((first | (apply ja cx_ok; decide) | (apply jb cx_ok; decide; decide) | (apply jc cx_ok; decide; decide)); (simp (maxSteps := 1000000) (disch := (first | omega | (simp only [vC]; omega))) only [push_cast, simprocAttr, takeM, dropM, zK, zA, zB, zN, zQ, zR, zO, zP, zT, zS, zU, leT, zH, natNe, zI, zG, zJ, hS2, isEmpty_map, zV, zW, zC, zM, zY, zX, zE, zD, Nat.zero_add, hk2, hg2, hx2] <;> rfl); try first | exact .inl rfl | exact .inr (by simp))
        | ((apply jY cx_ok; decide; decide); (simp (maxSteps := 1000000) (disch := (first | omega | (simp only [vC]; omega))) only [push_cast, simprocAttr, takeM, dropM, zK, zA, zB, zN, zQ, zR, zO, zP, zT, zS, zU, leT, zH, natNe, zI, zG, zJ, hS2, isEmpty_map, zV, zW, zC, zM, zY, zX, zE, zD, Nat.zero_add, hk2, hg2, hx2] <;> rfl); first | exact .inl rfl | exact .inr (by simp))
        | (apply jT cx_ok; decide; rfl; rfl; rfl; decide; (iterate 3 (simp (maxSteps := 1000000) (disch := (first | omega | (simp only [vC]; omega))) only [push_cast, simprocAttr, takeM, dropM, zK, zA, zB, zN, zQ, zR, zO, zP, zT, zS, zU, leT, zH, natNe, zI, zG, zJ, hS2, isEmpty_map, zV, zW, zC, zM, zY, zX, zE, zD, Nat.zero_add, hk2, hg2, hx2] <;> rfl)); (first | (focus (simp; done)) | (intro c hc; obtain ⟨x, _, rfl⟩ := List.mem_map.1 hc; rfl)); ((first | rfl | simp (maxSteps := 1000000) (disch := omega) only [push_cast])); ((try dsimp only); (try simp only [vC]); omega); ((try dsimp only); (try simp only [vC]); omega))
        | (apply jU cx_ok; decide; decide; rfl; rfl; rfl; decide; (iterate 3 (simp (maxSteps := 1000000) (disch := (first | omega | (simp only [vC]; omega))) only [push_cast, simprocAttr, takeM, dropM, zK, zA, zB, zN, zQ, zR, zO, zP, zT, zS, zU, leT, zH, natNe, zI, zG, zJ, hS2, isEmpty_map, zV, zW, zC, zM, zY, zX, zE, zD, Nat.zero_add, hk2, hg2, hx2] <;> rfl)); (first | (focus (simp; done)) | (intro c hc; obtain ⟨x, _, rfl⟩ := List.mem_map.1 hc; rfl)); ((first | rfl | exact idsLL_sight _ | exact idsLL_strike _ | (simp (maxSteps := 1000000) (disch := omega) only [push_cast]; done))); ((try dsimp only); (try simp only [vC]); omega); ((try dsimp only); (try simp only [vC]); omega); first | exact .inl rfl | exact .inr (by simp))
        | ((first | (apply jV cx_ok; decide) | (apply jW cx_ok; decide; decide) | (apply jX cx_ok; decide; decide)); (iterate 2 (simp (maxSteps := 1000000) (disch := (first | omega | (simp only [vC]; omega))) only [push_cast, simprocAttr, takeM, dropM, zK, zA, zB, zN, zQ, zR, zO, zP, zT, zS, zU, leT, zH, natNe, zI, zG, zJ, hS2, isEmpty_map, zV, zW, zC, zM, zY, zX, zE, zD, Nat.zero_add, hk2, hg2, hx2] <;> rfl)); (with_reducible first | exact hc); try first | rfl | (simp (maxSteps := 1000000) (disch := (first | omega | (simp only [vC]; omega))) only [push_cast, simprocAttr, takeM, dropM, zK, zA, zB, zN, zQ, zR, zO, zP, zT, zS, zU, leT, zH, natNe, zI, zG, zJ, hS2, isEmpty_map, zV, zW, zC, zM, zY, zX, zE, zD, Nat.zero_add, hk2, hg2, hx2] <;> rfl))

      all_goals (refine ⟨rest2.length, ?_, k2 + 1, (O2 ++ [x]), rest2, rfl, hd2, (by rw [List.append_assoc]; exact hp12), (by rw [List.length_append, List.length_singleton]; omega), (by omega), ?_, ?_, ?_, ?_, ?_, ?_, ?_, ?_, ?_, ?_, ?_⟩; ((simp only [zD] at *; omega)); all_goals first | (simp (disch := omega) only [push_cast, simprocAttr, hS2, natNe, zI, zG, zJ, isEmpty_map, zV, zW, zC, zM, zY, zX, zE, zD, Nat.zero_add, hk2, hg2, hx2] <;> first | rfl | omega) | omega)
  have hk2 := drop_nil hp02
  simp only [List.filter_nil, zZ] at hp12
  rw [hp12] at hS2
  repeat' first
    | apply jA | apply jB | apply jC | apply jD | apply jE | apply jF | apply jG | apply jH | apply jI | apply jJ
    | refine W.draw cx_mixed (by decide +kernel) ?_
    | ((first | (apply jK cx_ok; decide) | (apply jL cx_ok; decide; decide) | apply jM cx_ok | apply jR); (simp (disch := (first | omega | (simp only [vC]; omega))) only [push_cast, simprocAttr, takeM, dropM, zK, zA, zB, zN, zQ, zR, zO, zP, zT, zS, zU, leT, zH, hS2, natNe, zI, zG, zJ, isEmpty_map, zV, zW, zC, zM, hk2] <;> rfl); all_goals try ((with_reducible intro hI); try first | (cases hI; done) | (simp only [INTS, zL] at hI; try first | (exfalso; omega) | (have hT : True := hI; clear hT hI))))
    | (apply jT cx_ok; decide; rfl; rfl; rfl; decide; (iterate 3 (simp (disch := (first | omega | (simp only [vC]; omega))) only [push_cast, simprocAttr, takeM, dropM, zK, zA, zB, zN, zQ, zR, zO, zP, zT, zS, zU, leT, zH, hS2, natNe, zI, zG, zJ, isEmpty_map, zV, zW, zC, zM, hk2] <;> rfl)); (first | (focus (simp; done)) | (intro c hc; obtain ⟨x, _, rfl⟩ := List.mem_map.1 hc; rfl)); ((first | rfl | simp (disch := omega) only [push_cast])); ((try dsimp only); (try simp only [vC]); omega); ((try dsimp only); (try simp only [vC]); omega))
    | ((first | apply jl | apply jm); (iterate 2 (try (simp (disch := (first | omega | (simp only [vC]; omega))) only [push_cast, simprocAttr, takeM, dropM, zK, zA, zB, zN, zQ, zR, zO, zP, zT, zS, zU, leT, zH, hS2, natNe, zI, zG, zJ, isEmpty_map, zV, zW, zC, zM, hk2] <;> rfl))))

  refine AW.loop (fun n s => ∃ (k : Nat) (O : List Sight) (rest : List Sight), n = rest.length ∧ (r.sights.drop k = rest) ∧ (O ++ rest.filter PT = TT) ∧ (O.length ≤ k) ∧ (k ≤ r.sights.length) ∧ 5 ≤ s.nx ∧ s.tm 1 = lInt ids ∧ s.tm 2 = .ptr 0 0 0 1 ∧ s.tm 4 = .ptr 1 0 0 1 ∧ s.tm 5 = .ptr 2 0 0 1 ∧ s.tm 7 = ai k ∧ Pg.rowAt s.H 0 = some { k := 14, es := [eRec r], ty := 30 } ∧ Pg.rowAt s.H 1 = some { k := 14, es := [Z1], ty := 30 } ∧ Pg.rowAt s.H 2 = some { k := 14, es := [[ai r.s.id, ai r.s.inn.lo, ai r.s.inn.hi, ai r.s.out.lo, ai r.s.out.hi, ai r.s.zero.lo, ai r.s.zero.hi, ai r.s.fin.lo, ai r.s.fin.hi, ai r.s.rate.lo, ai r.s.rate.hi, lStop r.s.stops, .ref 3 0 SS.length, .ref 4 0 O.length]], ty := 30 } ∧ Pg.rowAt s.H 3 = some { k := 3, es := SS.map eStrike, ty := 60, lo := SS.length } ∧ Pg.rowAt s.H 4 = some { k := 3, es := O.map eSight, ty := 53, lo := O.length }) (r.sights.length) ⟨0, [], r.sights, rfl, rfl, (by rw [hTT]; rfl), (Nat.zero_le _), (Nat.zero_le _), ?_, ?_, ?_, ?_, ?_, ?_, ?_, ?_, ?_, ?_, ?_⟩ ?_
  iterate 11 (first | (simp (disch := omega) only [push_cast, simprocAttr, hS2, natNe, zI, zG, zJ, isEmpty_map, zV, zW, zC, zM, hk2] <;> first | rfl | omega) | omega)
  rintro n4 s4 ⟨k4, O4, rest4, hn4, hp04, hp14, hp24, hp34, hnl4, hS4⟩
  rcases rest4 with _ | ⟨x, rest4⟩
  rotate_left
  · obtain ⟨hk4, hg4, hd4, hl4, hm4, hx4⟩ := drop_cons hp04 eSight []
    have hc := hin x.strike
    rw [List.filter_cons, hPTe] at hp14
    cases hq : ids.contains x.strike with
    | true =>
      rw [hq] at hc
      rw [hq, if_neg (by decide)] at hp14
      repeat' first
        | apply jA | apply jB | apply jC | apply jD | apply jE | apply jF | apply jG | apply jH | apply jI | apply jJ
        | refine W.draw cx_mixed (by decide +kernel) ?_
        | ((first | (apply jK cx_ok; decide) | (apply jL cx_ok; decide; decide) | apply jM cx_ok | apply jR); (simp (disch := (first | omega | (simp only [vC]; omega))) only [push_cast, simprocAttr, takeM, dropM, zK, zA, zB, zN, zQ, zR, zO, zP, zT, zS, zU, leT, zH, hS4, natNe, zI, zG, zJ, isEmpty_map, zV, zW, zC, zM, hk4, hg4, hx4] <;> rfl); all_goals try ((with_reducible intro hI); try first | (cases hI; done) | (simp only [INTS, zL] at hI; try first | (exfalso; omega) | (have hT : True := hI; clear hT hI))))
        | (apply jT cx_ok; decide; rfl; rfl; rfl; decide; (iterate 3 (simp (disch := (first | omega | (simp only [vC]; omega))) only [push_cast, simprocAttr, takeM, dropM, zK, zA, zB, zN, zQ, zR, zO, zP, zT, zS, zU, leT, zH, hS4, natNe, zI, zG, zJ, isEmpty_map, zV, zW, zC, zM, hk4, hg4, hx4] <;> rfl)); (first | (focus (simp; done)) | (intro c hc; obtain ⟨x, _, rfl⟩ := List.mem_map.1 hc; rfl)); ((first | rfl | simp (disch := omega) only [push_cast])); ((try dsimp only); (try simp only [vC]); omega); ((try dsimp only); (try simp only [vC]); omega))
        | ((first | (apply jV cx_ok; decide) | (apply jW cx_ok; decide; decide)); (iterate 2 (simp (disch := (first | omega | (simp only [vC]; omega))) only [push_cast, simprocAttr, takeM, dropM, zK, zA, zB, zN, zQ, zR, zO, zP, zT, zS, zU, leT, zH, hS4, natNe, zI, zG, zJ, isEmpty_map, zV, zW, zC, zM, hk4, hg4, hx4] <;> rfl)); (with_reducible first | exact hc); try first | rfl | (simp (disch := (first | omega | (simp only [vC]; omega))) only [push_cast, simprocAttr, takeM, dropM, zK, zA, zB, zN, zQ, zR, zO, zP, zT, zS, zU, leT, zH, hS4, natNe, zI, zG, zJ, isEmpty_map, zV, zW, zC, zM, hk4, hg4, hx4] <;> rfl))
        | ((first | apply jl | apply jm); (iterate 2 (try (simp (disch := (first | omega | (simp only [vC]; omega))) only [push_cast, simprocAttr, takeM, dropM, zK, zA, zB, zN, zQ, zR, zO, zP, zT, zS, zU, leT, zH, hS4, natNe, zI, zG, zJ, isEmpty_map, zV, zW, zC, zM, hk4, hg4, hx4] <;> rfl))))

      all_goals (refine ⟨rest4.length, ?_, k4 + 1, O4, rest4, rfl, hd4, hp14, (by omega), (by omega), ?_, ?_, ?_, ?_, ?_, ?_, ?_, ?_, ?_, ?_, ?_⟩; ((simp only [zD] at *; omega)); all_goals first | (simp (disch := omega) only [push_cast, simprocAttr, hS4, natNe, zI, zG, zJ, isEmpty_map, zV, zW, zC, zM, hk4, hg4, hx4] <;> first | rfl | omega) | omega)
    | false =>
      rw [hq] at hc
      rw [hq, if_pos (by decide)] at hp14
      repeat' first
        | ((apply D.buildL cx_ok; decide; decide); (iterate 3 (simp (maxSteps := 1000000) (disch := (first | omega | (simp only [vC]; omega))) only [push_cast, simprocAttr, takeM, dropM, zK, zA, zB, zN, zQ, zR, zO, zP, zT, zS, zU, leT, zH, natNe, zI, zG, zJ, hS4, isEmpty_map, zV, zW, zC, zM, zY, zX, zE, zD, Nat.zero_add, hk4, hg4, hx4, pur, ite_true] <;> rfl)); exact Nat.zero_le _)
        | apply jA | apply jB | apply jC | apply jD | apply jE | apply jF | apply jG | apply jH | apply jI | apply jJ
        | refine AW.draw (id := 11) cx_mixed [8, 10] [7, 9] [4, 2] 0 (by decide +kernel) ?_
        | refine W.draw cx_mixed (by decide +kernel) ?_
        | ((first | (apply jK cx_ok; decide) | (apply jL cx_ok; decide; decide) | apply jM cx_ok | apply jR); (simp (maxSteps := 1000000) (disch := (first | omega | (simp only [vC]; omega))) only [push_cast, simprocAttr, takeM, dropM, zK, zA, zB, zN, zQ, zR, zO, zP, zT, zS, zU, leT, zH, natNe, zI, zG, zJ, hS4, isEmpty_map, zV, zW, zC, zM, zY, zX, zE, zD, Nat.zero_add, hk4, hg4, hx4] <;> rfl); all_goals try ((with_reducible intro hI); try first | (cases hI; done) | (simp only [INTS, zL] at hI; try first | (exfalso; omega) | (have hT : True := hI; clear hT hI))))
        | ((first | (apply ja cx_ok; decide) | (apply jb cx_ok; decide; decide) | (apply jc cx_ok; decide; decide)); (simp (maxSteps := 1000000) (disch := (first | omega | (simp only [vC]; omega))) only [push_cast, simprocAttr, takeM, dropM, zK, zA, zB, zN, zQ, zR, zO, zP, zT, zS, zU, leT, zH, natNe, zI, zG, zJ, hS4, isEmpty_map, zV, zW, zC, zM, zY, zX, zE, zD, Nat.zero_add, hk4, hg4, hx4] <;> rfl); try first | exact .inl rfl | exact .inr (by simp))
        | ((apply jY cx_ok; decide; decide); (simp (maxSteps := 1000000) (disch := (first | omega | (simp only [vC]; omega))) only [push_cast, simprocAttr, takeM, dropM, zK, zA, zB, zN, zQ, zR, zO, zP, zT, zS, zU, leT, zH, natNe, zI, zG, zJ, hS4, isEmpty_map, zV, zW, zC, zM, zY, zX, zE, zD, Nat.zero_add, hk4, hg4, hx4] <;> rfl); first | exact .inl rfl | exact .inr (by simp))
        | (apply jT cx_ok; decide; rfl; rfl; rfl; decide; (iterate 3 (simp (maxSteps := 1000000) (disch := (first | omega | (simp only [vC]; omega))) only [push_cast, simprocAttr, takeM, dropM, zK, zA, zB, zN, zQ, zR, zO, zP, zT, zS, zU, leT, zH, natNe, zI, zG, zJ, hS4, isEmpty_map, zV, zW, zC, zM, zY, zX, zE, zD, Nat.zero_add, hk4, hg4, hx4] <;> rfl)); (first | (focus (simp; done)) | (intro c hc; obtain ⟨x, _, rfl⟩ := List.mem_map.1 hc; rfl)); ((first | rfl | simp (maxSteps := 1000000) (disch := omega) only [push_cast])); ((try dsimp only); (try simp only [vC]); omega); ((try dsimp only); (try simp only [vC]); omega))
        | (apply jU cx_ok; decide; decide; rfl; rfl; rfl; decide; (iterate 3 (simp (maxSteps := 1000000) (disch := (first | omega | (simp only [vC]; omega))) only [push_cast, simprocAttr, takeM, dropM, zK, zA, zB, zN, zQ, zR, zO, zP, zT, zS, zU, leT, zH, natNe, zI, zG, zJ, hS4, isEmpty_map, zV, zW, zC, zM, zY, zX, zE, zD, Nat.zero_add, hk4, hg4, hx4] <;> rfl)); (first | (focus (simp; done)) | (intro c hc; obtain ⟨x, _, rfl⟩ := List.mem_map.1 hc; rfl)); ((first | rfl | exact idsLL_sight _ | exact idsLL_strike _ | (simp (maxSteps := 1000000) (disch := omega) only [push_cast]; done))); ((try dsimp only); (try simp only [vC]); omega); ((try dsimp only); (try simp only [vC]); omega); first | exact .inl rfl | exact .inr (by simp))
        | ((first | (apply jV cx_ok; decide) | (apply jW cx_ok; decide; decide) | (apply jX cx_ok; decide; decide)); (iterate 2 (simp (maxSteps := 1000000) (disch := (first | omega | (simp only [vC]; omega))) only [push_cast, simprocAttr, takeM, dropM, zK, zA, zB, zN, zQ, zR, zO, zP, zT, zS, zU, leT, zH, natNe, zI, zG, zJ, hS4, isEmpty_map, zV, zW, zC, zM, zY, zX, zE, zD, Nat.zero_add, hk4, hg4, hx4] <;> rfl)); (with_reducible first | exact hc); try first | rfl | (simp (maxSteps := 1000000) (disch := (first | omega | (simp only [vC]; omega))) only [push_cast, simprocAttr, takeM, dropM, zK, zA, zB, zN, zQ, zR, zO, zP, zT, zS, zU, leT, zH, natNe, zI, zG, zJ, hS4, isEmpty_map, zV, zW, zC, zM, zY, zX, zE, zD, Nat.zero_add, hk4, hg4, hx4] <;> rfl))

      all_goals (refine ⟨rest4.length, ?_, k4 + 1, (O4 ++ [x]), rest4, rfl, hd4, (by rw [List.append_assoc]; exact hp14), (by rw [List.length_append, List.length_singleton]; omega), (by omega), ?_, ?_, ?_, ?_, ?_, ?_, ?_, ?_, ?_, ?_, ?_⟩; ((simp only [zD] at *; omega)); all_goals first | (simp (disch := omega) only [push_cast, simprocAttr, hS4, natNe, zI, zG, zJ, isEmpty_map, zV, zW, zC, zM, zY, zX, zE, zD, Nat.zero_add, hk4, hg4, hx4] <;> first | rfl | omega) | omega)
  have hk4 := drop_nil hp04
  simp only [List.filter_nil, zZ] at hp14
  rw [hp14] at hS4
  repeat' first
    | apply jA | apply jB | apply jC | apply jD | apply jE | apply jF | apply jG | apply jH | apply jI | apply jJ
    | refine W.draw cx_mixed (by decide +kernel) ?_
    | ((first | (apply jK cx_ok; decide) | (apply jL cx_ok; decide; decide) | apply jM cx_ok | apply jR); (simp (disch := (first | omega | (simp only [vC]; omega))) only [push_cast, simprocAttr, takeM, dropM, zK, zA, zB, zN, zQ, zR, zO, zP, zT, zS, zU, leT, zH, hS4, natNe, zI, zG, zJ, isEmpty_map, zV, zW, zC, zM, hk4] <;> rfl); all_goals try ((with_reducible intro hI); try first | (cases hI; done) | (simp only [INTS, zL] at hI; try first | (exfalso; omega) | (have hT : True := hI; clear hT hI))))
    | (apply jT cx_ok; decide; rfl; rfl; rfl; decide; (iterate 3 (simp (disch := (first | omega | (simp only [vC]; omega))) only [push_cast, simprocAttr, takeM, dropM, zK, zA, zB, zN, zQ, zR, zO, zP, zT, zS, zU, leT, zH, hS4, natNe, zI, zG, zJ, isEmpty_map, zV, zW, zC, zM, hk4] <;> rfl)); (first | (focus (simp; done)) | (intro c hc; obtain ⟨x, _, rfl⟩ := List.mem_map.1 hc; rfl)); ((first | rfl | simp (disch := omega) only [push_cast])); ((try dsimp only); (try simp only [vC]); omega); ((try dsimp only); (try simp only [vC]); omega))
    | ((first | apply jl | apply jm); (iterate 2 (try (simp (disch := (first | omega | (simp only [vC]; omega))) only [push_cast, simprocAttr, takeM, dropM, zK, zA, zB, zN, zQ, zR, zO, zP, zT, zS, zU, leT, zH, hS4, natNe, zI, zG, zJ, isEmpty_map, zV, zW, zC, zM, hk4] <;> rfl))))

  all_goals (show _ = _; rfl)
end Go.Proofs.Ks
