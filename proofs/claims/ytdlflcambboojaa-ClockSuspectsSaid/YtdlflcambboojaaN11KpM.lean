/-
  Contracts of functions, proved by going through their code. No conditions.
-/
import Derived.Test.YtdlflcambboojaaSaa
import Derived.Test.YtdlflcambboojaaN11KuB
import Derived.Test.YtdlflcambboojaaN11KpL
set_option linter.unusedVariables false
set_option linter.unusedSimpArgs false
set_option maxHeartbeats 8000000
set_option maxRecDepth 10000
namespace Go.Proofs.Ks
open Go Go.Pg Go.Proofs
def outI (K : Nat) : Nat → List Sight → List Sight
  | _, [] => []
  | i, x :: l => if i = K then outI K (i + 1) l else x :: outI K (i + 1) l
theorem outI_gt (K : Nat) : ∀ (l : List Sight) (i : Nat), K < i → outI K i l = l
  | [], _, _ => rfl
  | x :: l, i, h => by unfold outI; rw [if_neg (by omega), outI_gt K l (i + 1) (by omega)]
theorem outI_eq (K : Nat) : ∀ (l : List Sight) (i : Nat), i ≤ K → outI K i l = l.take (K - i) ++ l.drop (K - i + 1)
  | [], i, _ => by simp [outI]
  | x :: l, i, h => by
    unfold outI
    by_cases e : i = K
    · subst e
      rw [if_pos rfl, outI_gt i l (i + 1) (by omega), Nat.sub_self]
      simp
    · rw [if_neg e, outI_eq K l (i + 1) (by omega)]
      have : K - i = (K - (i + 1)) + 1 := by omega
      rw [this]
      simp
theorem RUnseen_ok (r : Rec) (KK : Nat) (hsg : r.sights.length ≤ 1000000) : OKv cx 102 [.agg (eRec r), ai KK] (.agg (eRec (unseenR r KK))) := by
  obtain ⟨TT, hTT⟩ : ∃ z, outI KK 0 r.sights = z := ⟨_, rfl⟩
  have hR : unseenR r KK = { s := r.s, strikes := r.strikes, sights := TT } := by
    rw [← hTT, outI_eq KK r.sights 0 (Nat.zero_le _)]; rfl
  rw [hR]
  clear hR
  refine OKat.of_bodyM cx_ok (rs := [.cell 4 30]) Try.func102 rfl (by decide +kernel) rfl (by simp [Try.ntmps102]) ?_
  simp only [Try.ntmps102]
  obtain ⟨Z1, hZ1⟩ : ∃ z, ([.v (.int .i64 0), .v (.int .i64 0), .v (.int .i64 0), .v (.int .i64 0), .v (.int .i64 0), .v (.int .i64 0), .v (.int .i64 0), .v (.int .i64 0), .v (.int .i64 0), .v (.int .i64 0), .v (.int .i64 0), .v (.slice none 0 0), .v (.slice none 0 0), .v (.slice none 0 0)] : List AV) = z := ⟨_, rfl⟩
  repeat' first
    | apply jA | apply jB | apply jC | apply jD | apply jE | apply jF | apply jG | apply jH | apply jI | apply jJ
    | refine W.draw cx_mixed (by decide +kernel) ?_
    | ((first | (apply jK cx_ok; decide) | (apply jL cx_ok; decide; decide) | apply jM cx_ok | apply jR); (simp (disch := (first | omega | (simp only [vC]; omega))) only [push_cast, simprocAttr, takeM, dropM, zK, zA, zB, zN, zQ, zR, zO, zP, zT, zS, zU, leT, zH, natNe, zI, zG, zJ, isEmpty_map, zV, zW, zC, zM] <;> rfl); all_goals try ((with_reducible intro hI); try first | (cases hI; done) | (simp only [INTS, zL] at hI; try first | (exfalso; omega) | (have hT : True := hI; clear hT hI))))
    | (apply jT cx_ok; decide; rfl; rfl; rfl; decide; (iterate 3 (simp (disch := (first | omega | (simp only [vC]; omega))) only [push_cast, simprocAttr, takeM, dropM, zK, zA, zB, zN, zQ, zR, zO, zP, zT, zS, zU, leT, zH, natNe, zI, zG, zJ, isEmpty_map, zV, zW, zC, zM] <;> rfl)); (first | (focus (simp; done)) | (intro c hc; obtain ⟨x, _, rfl⟩ := List.mem_map.1 hc; rfl)); ((first | rfl | simp (disch := omega) only [push_cast])); ((try dsimp only); (try simp only [vC]); omega); ((try dsimp only); (try simp only [vC]); omega))
    | ((first | apply jl | apply jm); (iterate 2 (try (simp (disch := (first | omega | (simp only [vC]; omega))) only [push_cast, simprocAttr, takeM, dropM, zK, zA, zB, zN, zQ, zR, zO, zP, zT, zS, zU, leT, zH, natNe, zI, zG, zJ, isEmpty_map, zV, zW, zC, zM] <;> rfl))))

  refine AW.adoptCell 2 0 13 3 53 (r := { k := 14, es := [[ai r.s.id, ai r.s.inn.lo, ai r.s.inn.hi, ai r.s.out.lo, ai r.s.out.hi, ai r.s.zero.lo, ai r.s.zero.hi, ai r.s.fin.lo, ai r.s.fin.hi, ai r.s.rate.lo, ai r.s.rate.hi, lStop r.s.stops, lStrike r.strikes, .v (.slice none 0 0)]], ty := 30 }) (by simp (disch := omega) only [push_cast, simprocAttr, natNe, zI, zG, zJ, isEmpty_map, zV, zW, zC, zM] <;> rfl) rfl ?_
  refine AW.loop (fun n s => ∃ (k : Nat) (O : List Sight) (rest : List Sight), n = rest.length ∧ (r.sights.drop k = rest) ∧ (O ++ outI KK k rest = TT) ∧ (O.length ≤ k) ∧ (k ≤ r.sights.length) ∧ 4 ≤ s.nx ∧ s.tm 1 = ai KK ∧ s.tm 2 = .ptr 0 0 0 1 ∧ s.tm 4 = .ptr 1 0 0 1 ∧ s.tm 5 = .ptr 2 0 0 1 ∧ s.tm 6 = ai k ∧ Pg.rowAt s.H 0 = some { k := 14, es := [eRec r], ty := 30 } ∧ Pg.rowAt s.H 1 = some { k := 14, es := [Z1], ty := 30 } ∧ Pg.rowAt s.H 2 = some { k := 14, es := [[ai r.s.id, ai r.s.inn.lo, ai r.s.inn.hi, ai r.s.out.lo, ai r.s.out.hi, ai r.s.zero.lo, ai r.s.zero.hi, ai r.s.fin.lo, ai r.s.fin.hi, ai r.s.rate.lo, ai r.s.rate.hi, lStop r.s.stops, lStrike r.strikes, .ref 3 0 O.length]], ty := 30 } ∧ Pg.rowAt s.H 3 = some { k := 3, es := O.map eSight, ty := 53, lo := O.length }) (r.sights.length) ⟨0, [], r.sights, rfl, rfl, (by rw [hTT]; rfl), (Nat.zero_le _), (Nat.zero_le _), ?_, ?_, ?_, ?_, ?_, ?_, ?_, ?_, ?_, ?_⟩ ?_
  iterate 10 (first | (simp (disch := omega) only [push_cast, simprocAttr, natNe, zI, zG, zJ, isEmpty_map, zV, zW, zC, zM, hZ1] <;> first | rfl | omega) | omega)
  rintro n4 s4 ⟨k4, O4, rest4, hn4, hp04, hp14, hp24, hp34, hnl4, hS4⟩
  rcases rest4 with _ | ⟨x, rest4⟩
  rotate_left
  · obtain ⟨hk4, hg4, hd4, hl4, hm4, hx4⟩ := drop_cons hp04 eSight []
    unfold outI at hp14
    by_cases hq : k4 = KK
    · have hqT : ((k4 : Int) = (KK : Int)) = True := eq_true (by omega)
      rw [if_pos hq] at hp14
      repeat' first
        | apply jA | apply jB | apply jC | apply jD | apply jE | apply jF | apply jG | apply jH | apply jI | apply jJ
        | refine W.draw cx_mixed (by decide +kernel) ?_
        | ((first | (apply jK cx_ok; decide) | (apply jL cx_ok; decide; decide) | apply jM cx_ok | apply jR); (simp (disch := (first | omega | (simp only [vC]; omega))) only [push_cast, simprocAttr, takeM, dropM, zK, zA, zB, zN, zQ, zR, zO, zP, zT, zS, zU, leT, zH, hS4, natNe, zI, zG, zJ, isEmpty_map, zV, zW, zC, zM, hk4, hg4, hx4, hqT] <;> rfl); all_goals try ((with_reducible intro hI); try first | (cases hI; done) | (simp only [INTS, zL] at hI; try first | (exfalso; omega) | (have hT : True := hI; clear hT hI))))
        | (apply jT cx_ok; decide; rfl; rfl; rfl; decide; (iterate 3 (simp (disch := (first | omega | (simp only [vC]; omega))) only [push_cast, simprocAttr, takeM, dropM, zK, zA, zB, zN, zQ, zR, zO, zP, zT, zS, zU, leT, zH, hS4, natNe, zI, zG, zJ, isEmpty_map, zV, zW, zC, zM, hk4, hg4, hx4, hqT] <;> rfl)); (first | (focus (simp; done)) | (intro c hc; obtain ⟨x, _, rfl⟩ := List.mem_map.1 hc; rfl)); ((first | rfl | simp (disch := omega) only [push_cast])); ((try dsimp only); (try simp only [vC]); omega); ((try dsimp only); (try simp only [vC]); omega))
        | ((first | apply jl | apply jm); (iterate 2 (try (simp (disch := (first | omega | (simp only [vC]; omega))) only [push_cast, simprocAttr, takeM, dropM, zK, zA, zB, zN, zQ, zR, zO, zP, zT, zS, zU, leT, zH, hS4, natNe, zI, zG, zJ, isEmpty_map, zV, zW, zC, zM, hk4, hg4, hx4, hqT] <;> rfl))))

      all_goals (refine ⟨rest4.length, ?_, k4 + 1, O4, rest4, rfl, hd4, hp14, (by omega), (by omega), ?_, ?_, ?_, ?_, ?_, ?_, ?_, ?_, ?_, ?_⟩; ((simp only [zD] at *; omega)); all_goals first | (simp (disch := omega) only [push_cast, simprocAttr, hS4, natNe, zI, zG, zJ, isEmpty_map, zV, zW, zC, zM, hk4, hg4, hx4, hqT] <;> first | rfl | omega) | omega)
    · have hqF : ((k4 : Int) = (KK : Int)) = False := eq_false (by omega)
      rw [if_neg hq] at hp14
      repeat' first
        | ((apply D.buildL cx_ok; decide; decide); (iterate 3 (simp (maxSteps := 1000000) (disch := (first | omega | (simp only [vC]; omega))) only [push_cast, simprocAttr, takeM, dropM, zK, zA, zB, zN, zQ, zR, zO, zP, zT, zS, zU, leT, zH, natNe, zI, zG, zJ, hS4, isEmpty_map, zV, zW, zC, zM, zY, zX, zE, zD, Nat.zero_add, hk4, hg4, hx4, hqF, pur, ite_true] <;> rfl)); exact Nat.zero_le _)
        | apply jA | apply jB | apply jC | apply jD | apply jE | apply jF | apply jG | apply jH | apply jI | apply jJ
        | refine AW.draw (id := 6) cx_mixed [8, 10] [7, 9] [3, 2] 0 (by decide +kernel) ?_
        | refine W.draw cx_mixed (by decide +kernel) ?_
        | ((first | (apply jK cx_ok; decide) | (apply jL cx_ok; decide; decide) | apply jM cx_ok | apply jR); (simp (maxSteps := 1000000) (disch := (first | omega | (simp only [vC]; omega))) only [push_cast, simprocAttr, takeM, dropM, zK, zA, zB, zN, zQ, zR, zO, zP, zT, zS, zU, leT, zH, natNe, zI, zG, zJ, hS4, isEmpty_map, zV, zW, zC, zM, zY, zX, zE, zD, Nat.zero_add, hk4, hg4, hx4, hqF] <;> rfl); all_goals try ((with_reducible intro hI); try first | (cases hI; done) | (simp only [INTS, zL] at hI; try first | (exfalso; omega) | (have hT : True := hI; clear hT hI))))
        | ((first | (apply ja cx_ok; decide) | (apply jb cx_ok; decide; decide) | (apply jc cx_ok; decide; decide)); (simp (maxSteps := 1000000) (disch := (first | omega | (simp only [vC]; omega))) only [push_cast, simprocAttr, takeM, dropM, zK, zA, zB, zN, zQ, zR, zO, zP, zT, zS, zU, leT, zH, natNe, zI, zG, zJ, hS4, isEmpty_map, zV, zW, zC, zM, zY, zX, zE, zD, Nat.zero_add, hk4, hg4, hx4, hqF] <;> rfl); try first | exact .inl rfl | exact .inr (by simp))
        | ((apply jY cx_ok; decide; decide); (simp (maxSteps := 1000000) (disch := (first | omega | (simp only [vC]; omega))) only [push_cast, simprocAttr, takeM, dropM, zK, zA, zB, zN, zQ, zR, zO, zP, zT, zS, zU, leT, zH, natNe, zI, zG, zJ, hS4, isEmpty_map, zV, zW, zC, zM, zY, zX, zE, zD, Nat.zero_add, hk4, hg4, hx4, hqF] <;> rfl); first | exact .inl rfl | exact .inr (by simp))
        | (apply jT cx_ok; decide; rfl; rfl; rfl; decide; (iterate 3 (simp (maxSteps := 1000000) (disch := (first | omega | (simp only [vC]; omega))) only [push_cast, simprocAttr, takeM, dropM, zK, zA, zB, zN, zQ, zR, zO, zP, zT, zS, zU, leT, zH, natNe, zI, zG, zJ, hS4, isEmpty_map, zV, zW, zC, zM, zY, zX, zE, zD, Nat.zero_add, hk4, hg4, hx4, hqF] <;> rfl)); (first | (focus (simp; done)) | (intro c hc; obtain ⟨x, _, rfl⟩ := List.mem_map.1 hc; rfl)); ((first | rfl | simp (maxSteps := 1000000) (disch := omega) only [push_cast])); ((try dsimp only); (try simp only [vC]); omega); ((try dsimp only); (try simp only [vC]); omega))
        | (apply jU cx_ok; decide; decide; rfl; rfl; rfl; decide; (iterate 3 (simp (maxSteps := 1000000) (disch := (first | omega | (simp only [vC]; omega))) only [push_cast, simprocAttr, takeM, dropM, zK, zA, zB, zN, zQ, zR, zO, zP, zT, zS, zU, leT, zH, natNe, zI, zG, zJ, hS4, isEmpty_map, zV, zW, zC, zM, zY, zX, zE, zD, Nat.zero_add, hk4, hg4, hx4, hqF] <;> rfl)); (first | (focus (simp; done)) | (intro c hc; obtain ⟨x, _, rfl⟩ := List.mem_map.1 hc; rfl)); ((first | rfl | exact idsLL_sight _ | exact idsLL_strike _ | (simp (maxSteps := 1000000) (disch := omega) only [push_cast]; done))); ((try dsimp only); (try simp only [vC]); omega); ((try dsimp only); (try simp only [vC]); omega); first | exact .inl rfl | exact .inr (by simp))

      all_goals (refine ⟨rest4.length, ?_, k4 + 1, (O4 ++ [x]), rest4, rfl, hd4, (by rw [List.append_assoc]; exact hp14), (by rw [List.length_append, List.length_singleton]; omega), (by omega), ?_, ?_, ?_, ?_, ?_, ?_, ?_, ?_, ?_, ?_⟩; ((simp only [zD] at *; omega)); all_goals first | (simp (disch := omega) only [push_cast, simprocAttr, hS4, natNe, zI, zG, zJ, isEmpty_map, zV, zW, zC, zM, zY, zX, zE, zD, Nat.zero_add, hk4, hg4, hx4, hqF] <;> first | rfl | omega) | omega)
  have hk4 := drop_nil hp04
  unfold outI at hp14
  simp only [zZ] at hp14
  rw [hp14] at hS4
  repeat' first
    | apply jA | apply jB | apply jC | apply jD | apply jE | apply jF | apply jG | apply jH | apply jI | apply jJ
    | refine W.draw cx_mixed (by decide +kernel) ?_
    | ((first | (apply jK cx_ok; decide) | (apply jL cx_ok; decide; decide) | apply jM cx_ok | apply jR); (simp (disch := (first | omega | (simp only [vC]; omega))) only [push_cast, simprocAttr, takeM, dropM, zK, zA, zB, zN, zQ, zR, zO, zP, zT, zS, zU, leT, zH, hS4, natNe, zI, zG, zJ, isEmpty_map, zV, zW, zC, zM, hk4] <;> rfl); all_goals try ((with_reducible intro hI); try first | (cases hI; done) | (simp only [INTS, zL] at hI; try first | (exfalso; omega) | (have hT : True := hI; clear hT hI))))
    | (apply jT cx_ok; decide; rfl; rfl; rfl; decide; (iterate 3 (simp (disch := (first | omega | (simp only [vC]; omega))) only [push_cast, simprocAttr, takeM, dropM, zK, zA, zB, zN, zQ, zR, zO, zP, zT, zS, zU, leT, zH, hS4, natNe, zI, zG, zJ, isEmpty_map, zV, zW, zC, zM, hk4] <;> rfl)); (first | (focus (simp; done)) | (intro c hc; obtain ⟨x, _, rfl⟩ := List.mem_map.1 hc; rfl)); ((first | rfl | simp (disch := omega) only [push_cast])); ((try dsimp only); (try simp only [vC]); omega); ((try dsimp only); (try simp only [vC]); omega))
    | ((first | apply jl | apply jm); (iterate 2 (try (simp (disch := (first | omega | (simp only [vC]; omega))) only [push_cast, simprocAttr, takeM, dropM, zK, zA, zB, zN, zQ, zR, zO, zP, zT, zS, zU, leT, zH, hS4, natNe, zI, zG, zJ, isEmpty_map, zV, zW, zC, zM, hk4] <;> rfl))))

  all_goals (show _ = _; rfl)
end Go.Proofs.Ks
