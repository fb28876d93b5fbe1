/-
  Contracts of functions, proved by going through their code. No conditions.
-/
import Derived.Test.YtofdhddbfjfkcaaDoorHc
import Derived.Test.YtofdhddbfjfkcaaDoorHf
import Derived.Test.YtofdhddbfjfkcaaDoorVa
set_option maxHeartbeats 8000000
set_option linter.unusedSimpArgs false
set_option linter.unusedVariables false
set_option maxRecDepth 10000
namespace Go.Proofs.Hs
open Go Go.Pg Go.Proofs

theorem door_len (h : House) (hfit : h.Fit) (n : Int) : (h.door n).hours.length ≤ 1048576 := by
  unfold House.door
  rw [List.getD_eq_getElem?_getD]
  cases hx : h.doors[n.toNat]? with
  | none => simp
  | some d => exact (hfit.doors d (List.mem_of_getElem? hx)).1
theorem shutDoor_same (h : House) (n : Int) (s : Span) (hfit : h.Fit) : OKv cx 26 [.agg (eHouse (shutDoorR h n s).1), .agg (eHouse (shutDoorR h n s).1)] (ab true) := by
  unfold shutDoorR
  split
  · exact Same_ok .zero (by simp [House.zero]) (by simp [House.zero]) (by simp [House.zero]) (fun d hd => by simp [House.zero] at hd)
  · split
    · exact Same_ok .zero (by simp [House.zero]) (by simp [House.zero]) (by simp [House.zero]) (fun d hd => by simp [House.zero] at hd)
    · split
      · exact Same_ok .zero (by simp [House.zero]) (by simp [House.zero]) (by simp [House.zero]) (fun d hd => by simp [House.zero] at hd)
      · rename_i hl
        refine Same_ok _ hfit.rooms (by have := hfit.nd; simp [setDoor]; omega) hfit.nw (fun d hd => ?_)
        unfold setDoor at hd
        rcases List.mem_or_eq_of_mem_set hd with hd | rfl
        · exact hfit.doors d hd
        · exact ⟨door_len h hfit _, by dsimp only; omega⟩
theorem law4_ok (h : House) (n : Int) (sp : Span) (hn : ∀ r ∈ h.rooms, r.name.size ≤ 9223372036854775807) : OKv cx 4 [.agg (eHouse h), ai n, .agg (eSpan sp)] (ab true) := by
  by_cases hf : few h = true
  · have hfit := few_fit hf hn
    have hrl := hfit.rooms
    refine OKat.of_body (rs := [6]) Tryd.func4 rfl (by decide +kernel) rfl (by simp [Tryd.ntmps4]) ?_
    simp only [Tryd.ntmps4]
    repeat' first
      | refine AW.seq ?_ | refine AW.region ?_ | refine AW.ret ?_ | refine AW.block ?_ | refine AW.skip ?_ | refine AW.exit ?_ | refine AW.scope ?_ | refine AW.label ?_ | refine AWL.nil ?_ | refine D.nil ?_
      | refine W.draw cx_mixed (by decide +kernel) ?_
      | ((first | (apply W.step cx_ok; decide) | (apply D.step cx_ok; decide; decide) | apply W.store cx_ok | (apply W.gS; rfl; decide) | (apply D.gS; rfl; decide; decide) | apply AW.cond); (simp (disch := omega) only [push_cast, Int.reduceAdd, Nat.reduceEqDiff, Nat.reduceAdd, Nat.reduceSub, Nat.reduceMul, Nat.reduceLeDiff, Nat.reduceLT, ↓reduceIte, hf, shutDoor_eq] <;> rfl); all_goals (try ((with_reducible intro hI); first | (cases hI; done) | (simp only [INTS] at hI; first | (exfalso; omega) | (have hT : True := hI; clear hT hI) | skip) | skip)))
      | ((first | (apply W.gU; rfl; decide) | (apply D.gU; rfl; decide; decide)); (simp (disch := omega) only [push_cast, Int.reduceAdd, Nat.reduceEqDiff, Nat.reduceAdd, Nat.reduceSub, Nat.reduceMul, Nat.reduceLeDiff, Nat.reduceLT, ↓reduceIte, hf, shutDoor_eq] <;> rfl))
      | ((first | (apply W.callv cx_ok; decide) | (apply D.callv cx_ok; decide; decide)); (iterate 2 (simp (disch := omega) only [push_cast, Int.reduceAdd, Nat.reduceEqDiff, Nat.reduceAdd, Nat.reduceSub, Nat.reduceMul, Nat.reduceLeDiff, Nat.reduceLT, ↓reduceIte, hf, shutDoor_eq] <;> rfl)); (with_reducible first | exact few_ok _ | exact sanity_ok | exact Shut_ok _ _ _ hfit | exact ShutR_ok _ _ _ hfit | exact shutDoor_same _ _ _ hfit); try first | rfl | (simp (disch := omega) only [push_cast, Int.reduceAdd, Nat.reduceEqDiff, Nat.reduceAdd, Nat.reduceSub, Nat.reduceMul, Nat.reduceLeDiff, Nat.reduceLT, ↓reduceIte, hf, shutDoor_eq] <;> rfl))
      | ((first | apply W.retC | apply W.endC' | apply W.retM | apply W.endM' | apply W.ret1 | apply W.end1 | apply W.ret2 | apply W.end2 | apply W.ret3 | apply W.end3 | apply W.ret0 | apply W.end0); (iterate 2 (try (simp (disch := omega) only [push_cast, Int.reduceAdd, Nat.reduceEqDiff, Nat.reduceAdd, Nat.reduceSub, Nat.reduceMul, Nat.reduceLeDiff, Nat.reduceLT, ↓reduceIte, hf, shutDoor_eq] <;> rfl))); (skip))
    all_goals (show _ = _; first | rfl | (simp_all; done))
  · have hf' : few h = false := by simpa using hf
    refine OKat.of_body (rs := [6]) Tryd.func4 rfl (by decide +kernel) rfl (by simp [Tryd.ntmps4]) ?_
    simp only [Tryd.ntmps4]
    repeat' first
      | refine AW.seq ?_ | refine AW.region ?_ | refine AW.ret ?_ | refine AW.block ?_ | refine AW.skip ?_ | refine AW.exit ?_ | refine AW.scope ?_ | refine AW.label ?_ | refine AWL.nil ?_ | refine D.nil ?_
      | refine W.draw cx_mixed (by decide +kernel) ?_
      | ((first | (apply W.step cx_ok; decide) | (apply D.step cx_ok; decide; decide) | apply W.store cx_ok | (apply W.gS; rfl; decide) | (apply D.gS; rfl; decide; decide) | apply AW.cond); (simp (disch := omega) only [push_cast, Int.reduceAdd, Nat.reduceEqDiff, Nat.reduceAdd, Nat.reduceSub, Nat.reduceMul, Nat.reduceLeDiff, Nat.reduceLT, ↓reduceIte, hf'] <;> rfl); all_goals (try ((with_reducible intro hI); first | (cases hI; done) | (simp only [INTS] at hI; first | (exfalso; omega) | (have hT : True := hI; clear hT hI) | skip) | skip)))
      | ((first | (apply W.gU; rfl; decide) | (apply D.gU; rfl; decide; decide)); (simp (disch := omega) only [push_cast, Int.reduceAdd, Nat.reduceEqDiff, Nat.reduceAdd, Nat.reduceSub, Nat.reduceMul, Nat.reduceLeDiff, Nat.reduceLT, ↓reduceIte, hf'] <;> rfl))
      | ((first | (apply W.callv cx_ok; decide) | (apply D.callv cx_ok; decide; decide)); (iterate 2 (simp (disch := omega) only [push_cast, Int.reduceAdd, Nat.reduceEqDiff, Nat.reduceAdd, Nat.reduceSub, Nat.reduceMul, Nat.reduceLeDiff, Nat.reduceLT, ↓reduceIte, hf'] <;> rfl)); (with_reducible first | exact few_ok _ | exact sanity_ok); try first | rfl | (simp (disch := omega) only [push_cast, Int.reduceAdd, Nat.reduceEqDiff, Nat.reduceAdd, Nat.reduceSub, Nat.reduceMul, Nat.reduceLeDiff, Nat.reduceLT, ↓reduceIte, hf'] <;> rfl))
      | ((first | apply W.retC | apply W.endC' | apply W.retM | apply W.endM' | apply W.ret1 | apply W.end1 | apply W.ret2 | apply W.end2 | apply W.ret3 | apply W.end3 | apply W.ret0 | apply W.end0); (iterate 2 (try (simp (disch := omega) only [push_cast, Int.reduceAdd, Nat.reduceEqDiff, Nat.reduceAdd, Nat.reduceSub, Nat.reduceMul, Nat.reduceLeDiff, Nat.reduceLT, ↓reduceIte, hf'] <;> rfl))); (skip))
    all_goals (show _ = _; first | rfl | (simp_all; done))

end Go.Proofs.Hs
