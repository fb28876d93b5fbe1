/-
  Contracts of functions, proved by going through their code. No conditions.
-/
import Derived.Test.YtofdhddbfjfkcaaDoorPgb
import Derived.Test.YtofdhddbfjfkcaaDoorHc
import Derived.Test.YtofdhddbfjfkcaaDoorHe
import Derived.Test.YtofdhddbfjfkcaaDoorHf
set_option maxHeartbeats 8000000
set_option linter.unusedSimpArgs false
set_option linter.unusedVariables false
set_option maxRecDepth 10000
namespace Go.Proofs.Hs
open Go Go.Pg Go.Proofs

theorem SameSpans_ok (l : List Span) (hl : l.length ≤ 1099511627776) : OKv cx 71 [lSpan l, lSpan l] (ab true) := by
  refine OKat.of_body (rs := [4]) Tryd.func71 rfl (by decide +kernel) rfl (by simp [Tryd.ntmps71]) ?_
  simp only [Tryd.ntmps71]
  repeat' first
    | refine AW.seq ?_ | refine AW.region ?_ | refine AW.ret ?_ | refine AW.block ?_ | refine AW.skip ?_ | refine AW.exit ?_ | refine AW.scope ?_ | refine AW.label ?_ | refine AWL.nil ?_ | refine D.nil ?_
    | refine W.draw cx_mixed (by decide +kernel) ?_
    | ((first | (apply W.step cx_ok; decide) | (apply D.step cx_ok; decide; decide) | apply W.store cx_ok | (apply W.gS; rfl; decide) | (apply D.gS; rfl; decide; decide) | apply AW.cond); (simp (disch := omega) only [push_cast, Int.reduceAdd, Nat.reduceEqDiff, Nat.reduceAdd, Nat.reduceSub, Nat.reduceMul, Nat.reduceLeDiff, Nat.reduceLT, ↓reduceIte] <;> rfl); all_goals (try ((with_reducible intro hI); first | (cases hI; done) | (simp only [INTS] at hI; first | (exfalso; omega) | (have hT : True := hI; clear hT hI) | skip) | skip)))
    | ((first | (apply W.gU; rfl; decide) | (apply D.gU; rfl; decide; decide)); (simp (disch := omega) only [push_cast, Int.reduceAdd, Nat.reduceEqDiff, Nat.reduceAdd, Nat.reduceSub, Nat.reduceMul, Nat.reduceLeDiff, Nat.reduceLT, ↓reduceIte] <;> rfl))
    | ((first | apply W.retC | apply W.endC' | apply W.retM | apply W.endM' | apply W.ret1 | apply W.end1 | apply W.ret2 | apply W.end2 | apply W.ret3 | apply W.end3 | apply W.ret0 | apply W.end0); (iterate 2 (try (simp (disch := omega) only [push_cast, Int.reduceAdd, Nat.reduceEqDiff, Nat.reduceAdd, Nat.reduceSub, Nat.reduceMul, Nat.reduceLeDiff, Nat.reduceLT, ↓reduceIte] <;> rfl))); (skip))
  all_goals try (exact absurd trivial (by assumption))
  refine AW.loop (fun n s => ∃ (k : Nat) (rest : List Span), n = rest.length ∧ (l.drop k = rest) ∧ s.tm 0 = lSpan l ∧ s.tm 1 = lSpan l ∧ s.tm 5 = ai k) (l.length) ⟨0, l, rfl, rfl, ?_, ?_, ?_⟩ ?_
  iterate 3 (first | ((simp (disch := omega) only [push_cast, Int.reduceAdd, Nat.reduceEqDiff, Nat.reduceAdd, Nat.reduceSub, Nat.reduceMul, Nat.reduceLeDiff, Nat.reduceLT, ↓reduceIte]; done)) | (simp (disch := omega) only [push_cast, Int.reduceAdd, Nat.reduceEqDiff, Nat.reduceAdd, Nat.reduceSub, Nat.reduceMul, Nat.reduceLeDiff, Nat.reduceLT, ↓reduceIte] <;> first | rfl | omega) | omega)
  rintro n s ⟨k, rest, hn, hp0, hS⟩
  rcases rest with _ | ⟨x, rest⟩
  · have hk := drop_nil hp0
    repeat' first
      | refine AW.seq ?_ | refine AW.region ?_ | refine AW.ret ?_ | refine AW.block ?_ | refine AW.skip ?_ | refine AW.exit ?_ | refine AW.scope ?_ | refine AW.label ?_ | refine AWL.nil ?_ | refine D.nil ?_
      | refine W.draw cx_mixed (by decide +kernel) ?_
      | ((first | (apply W.step cx_ok; decide) | (apply D.step cx_ok; decide; decide) | apply W.store cx_ok | (apply W.gS; rfl; decide) | (apply D.gS; rfl; decide; decide) | apply AW.cond); (simp (disch := omega) only [push_cast, Int.reduceAdd, Nat.reduceEqDiff, Nat.reduceAdd, Nat.reduceSub, Nat.reduceMul, Nat.reduceLeDiff, Nat.reduceLT, ↓reduceIte, hS, hk] <;> rfl); all_goals (try ((with_reducible intro hI); first | (cases hI; done) | (simp only [INTS] at hI; first | (exfalso; omega) | (have hT : True := hI; clear hT hI) | skip) | skip)))
      | ((first | (apply W.gU; rfl; decide) | (apply D.gU; rfl; decide; decide)); (simp (disch := omega) only [push_cast, Int.reduceAdd, Nat.reduceEqDiff, Nat.reduceAdd, Nat.reduceSub, Nat.reduceMul, Nat.reduceLeDiff, Nat.reduceLT, ↓reduceIte, hS, hk] <;> rfl))
      | ((first | apply W.retC | apply W.endC' | apply W.retM | apply W.endM' | apply W.ret1 | apply W.end1 | apply W.ret2 | apply W.end2 | apply W.ret3 | apply W.end3 | apply W.ret0 | apply W.end0); (iterate 2 (try (simp (disch := omega) only [push_cast, Int.reduceAdd, Nat.reduceEqDiff, Nat.reduceAdd, Nat.reduceSub, Nat.reduceMul, Nat.reduceLeDiff, Nat.reduceLT, ↓reduceIte, hS, hk] <;> rfl))); (skip))
    all_goals (show _ = _; rfl)
  · obtain ⟨hk, hg, hd', hl', hm, hx⟩ := drop_cons hp0 eSpan []
    repeat' first
      | refine AW.seq ?_ | refine AW.region ?_ | refine AW.ret ?_ | refine AW.block ?_ | refine AW.skip ?_ | refine AW.exit ?_ | refine AW.scope ?_ | refine AW.label ?_ | refine AWL.nil ?_ | refine D.nil ?_
      | refine W.draw cx_mixed (by decide +kernel) ?_
      | ((first | (apply W.step cx_ok; decide) | (apply D.step cx_ok; decide; decide) | apply W.store cx_ok | (apply W.gS; rfl; decide) | (apply D.gS; rfl; decide; decide) | apply AW.cond); (simp (disch := omega) only [push_cast, Int.reduceAdd, Nat.reduceEqDiff, Nat.reduceAdd, Nat.reduceSub, Nat.reduceMul, Nat.reduceLeDiff, Nat.reduceLT, ↓reduceIte, hS, hk, hg] <;> rfl); all_goals (try ((with_reducible intro hI); first | (cases hI; done) | (simp only [INTS] at hI; first | (exfalso; omega) | (have hT : True := hI; clear hT hI) | skip) | skip)))
      | ((first | (apply W.gU; rfl; decide) | (apply D.gU; rfl; decide; decide)); (simp (disch := omega) only [push_cast, Int.reduceAdd, Nat.reduceEqDiff, Nat.reduceAdd, Nat.reduceSub, Nat.reduceMul, Nat.reduceLeDiff, Nat.reduceLT, ↓reduceIte, hS, hk, hg] <;> rfl))
      | ((first | apply W.retC | apply W.endC' | apply W.retM | apply W.endM' | apply W.ret1 | apply W.end1 | apply W.ret2 | apply W.end2 | apply W.ret3 | apply W.end3 | apply W.ret0 | apply W.end0); (iterate 2 (try (simp (disch := omega) only [push_cast, Int.reduceAdd, Nat.reduceEqDiff, Nat.reduceAdd, Nat.reduceSub, Nat.reduceMul, Nat.reduceLeDiff, Nat.reduceLT, ↓reduceIte, hS, hk, hg] <;> rfl))); (skip))
    all_goals first
      | (exfalso; first | exact absurd trivial (by assumption) | omega | (simp_all; done))
      | (refine ⟨rest.length, ?_, k + 1, rest, rfl, hd', ?_, ?_, ?_⟩; ((simp only [List.length_cons] at *; omega)); all_goals (first | (simp (disch := omega) only [push_cast, Int.reduceAdd, Nat.reduceEqDiff, Nat.reduceAdd, Nat.reduceSub, Nat.reduceMul, Nat.reduceLeDiff, Nat.reduceLT, ↓reduceIte, hS, hg, hk]; done) | (simp (disch := omega) only [push_cast, Int.reduceAdd, Nat.reduceEqDiff, Nat.reduceAdd, Nat.reduceSub, Nat.reduceMul, Nat.reduceLeDiff, Nat.reduceLT, ↓reduceIte, hS, hg, hk] <;> first | rfl | omega) | omega))

theorem Same_ok (h : House) (hr : h.rooms.length ≤ 1048576) (hd : h.doors.length ≤ 1048576) (hw : h.ways.length ≤ 1048576) (hds : ∀ d ∈ h.doors, d.hours.length ≤ 1048576 ∧ d.shut.length ≤ 1048576) : OKv cx 26 [.agg (eHouse h), .agg (eHouse h)] (ab true) := by
  refine OKat.of_body (rs := [4]) Tryd.func26 rfl (by decide +kernel) rfl (by simp [Tryd.ntmps26]) ?_
  simp only [Tryd.ntmps26]
  repeat' first
    | refine AW.seq ?_ | refine AW.region ?_ | refine AW.ret ?_ | refine AW.block ?_ | refine AW.skip ?_ | refine AW.exit ?_ | refine AW.scope ?_ | refine AW.label ?_ | refine AWL.nil ?_ | refine D.nil ?_
    | refine W.draw cx_mixed (by decide +kernel) ?_
    | ((first | (apply W.step cx_ok; decide) | (apply D.step cx_ok; decide; decide) | apply W.store cx_ok | (apply W.gS; rfl; decide) | (apply D.gS; rfl; decide; decide) | apply AW.cond); (simp (disch := omega) only [push_cast, Int.reduceAdd, Nat.reduceEqDiff, Nat.reduceAdd, Nat.reduceSub, Nat.reduceMul, Nat.reduceLeDiff, Nat.reduceLT, ↓reduceIte] <;> rfl); all_goals (try ((with_reducible intro hI); first | (cases hI; done) | (simp only [INTS] at hI; first | (exfalso; omega) | (have hT : True := hI; clear hT hI) | skip) | skip)))
    | ((first | (apply W.gU; rfl; decide) | (apply D.gU; rfl; decide; decide)); (simp (disch := omega) only [push_cast, Int.reduceAdd, Nat.reduceEqDiff, Nat.reduceAdd, Nat.reduceSub, Nat.reduceMul, Nat.reduceLeDiff, Nat.reduceLT, ↓reduceIte] <;> rfl))
    | ((first | apply W.retC | apply W.endC' | apply W.retM | apply W.endM' | apply W.ret1 | apply W.end1 | apply W.ret2 | apply W.end2 | apply W.ret3 | apply W.end3 | apply W.ret0 | apply W.end0); (iterate 2 (try (simp (disch := omega) only [push_cast, Int.reduceAdd, Nat.reduceEqDiff, Nat.reduceAdd, Nat.reduceSub, Nat.reduceMul, Nat.reduceLeDiff, Nat.reduceLT, ↓reduceIte] <;> rfl))); (skip))
  all_goals try (exfalso; first | exact absurd trivial (by assumption) | omega | (simp_all; done))
  refine AW.loop (fun n s => ∃ (k : Nat) (rest : List Room), n = rest.length ∧ (h.rooms.drop k = rest) ∧ 2 ≤ s.nx ∧ s.tm 2 = .ptr 0 0 0 1 ∧ s.tm 3 = .ptr 1 0 0 1 ∧ s.tm 5 = ai k ∧ Pg.rowAt s.H (0) = some ({ k := 3, es := [eHouse h], ty := 26 }) ∧ Pg.rowAt s.H (1) = some ({ k := 3, es := [eHouse h], ty := 26 })) (h.rooms.length) ⟨0, _, rfl, rfl, ?_, ?_, ?_, ?_, ?_, ?_⟩ ?_
  iterate 6 (first | ((simp (disch := omega) only [push_cast, Int.reduceAdd, Nat.reduceEqDiff, Nat.reduceAdd, Nat.reduceSub, Nat.reduceMul, Nat.reduceLeDiff, Nat.reduceLT, ↓reduceIte]; done)) | (simp (disch := omega) only [push_cast, Int.reduceAdd, Nat.reduceEqDiff, Nat.reduceAdd, Nat.reduceSub, Nat.reduceMul, Nat.reduceLeDiff, Nat.reduceLT, ↓reduceIte] <;> first | rfl | omega) | omega)
  rintro n s ⟨k, rest, hn, hp0, hnl, hS⟩
  have hZ : (0 : Nat) ≠ s.nx ∧ s.nx ≠ (0 : Nat) ∧ (1 : Nat) ≠ s.nx ∧ s.nx ≠ (1 : Nat) := by omega
  rcases rest with _ | ⟨x, rest⟩
  · have hk := drop_nil hp0
    repeat' first
      | refine AW.seq ?_ | refine AW.region ?_ | refine AW.ret ?_ | refine AW.block ?_ | refine AW.skip ?_ | refine AW.exit ?_ | refine AW.scope ?_ | refine AW.label ?_ | refine AWL.nil ?_ | refine D.nil ?_
      | refine W.draw cx_mixed (by decide +kernel) ?_
      | ((first | (apply W.step cx_ok; decide) | (apply D.step cx_ok; decide; decide) | apply W.store cx_ok | (apply W.gS; rfl; decide) | (apply D.gS; rfl; decide; decide) | apply AW.cond); (simp (disch := omega) only [push_cast, Int.reduceAdd, Nat.reduceEqDiff, Nat.reduceAdd, Nat.reduceSub, Nat.reduceMul, Nat.reduceLeDiff, Nat.reduceLT, ↓reduceIte, hS, hZ, hk] <;> rfl); all_goals (try ((with_reducible intro hI); first | (cases hI; done) | (simp only [INTS] at hI; first | (exfalso; omega) | (have hT : True := hI; clear hT hI) | skip) | skip)))
      | ((first | (apply W.gU; rfl; decide) | (apply D.gU; rfl; decide; decide)); (simp (disch := omega) only [push_cast, Int.reduceAdd, Nat.reduceEqDiff, Nat.reduceAdd, Nat.reduceSub, Nat.reduceMul, Nat.reduceLeDiff, Nat.reduceLT, ↓reduceIte, hS, hZ, hk] <;> rfl))
      | ((first | apply W.retC | apply W.endC' | apply W.retM | apply W.endM' | apply W.ret1 | apply W.end1 | apply W.ret2 | apply W.end2 | apply W.ret3 | apply W.end3 | apply W.ret0 | apply W.end0); (iterate 2 (try (simp (disch := omega) only [push_cast, Int.reduceAdd, Nat.reduceEqDiff, Nat.reduceAdd, Nat.reduceSub, Nat.reduceMul, Nat.reduceLeDiff, Nat.reduceLT, ↓reduceIte, hS, hZ, hk] <;> rfl))); (skip))
    refine AW.loop (fun n s => ∃ (k : Nat) (rest : List Door), n = rest.length ∧ (h.doors.drop k = rest) ∧ 2 ≤ s.nx ∧ s.tm 2 = .ptr 0 0 0 1 ∧ s.tm 3 = .ptr 1 0 0 1 ∧ s.tm 6 = ai k ∧ Pg.rowAt s.H (0) = some ({ k := 3, es := [eHouse h], ty := 26 }) ∧ Pg.rowAt s.H (1) = some ({ k := 3, es := [eHouse h], ty := 26 })) (h.doors.length) ⟨0, _, rfl, rfl, ?_, ?_, ?_, ?_, ?_, ?_⟩ ?_
    iterate 6 (first | ((simp (disch := omega) only [push_cast, Int.reduceAdd, Nat.reduceEqDiff, Nat.reduceAdd, Nat.reduceSub, Nat.reduceMul, Nat.reduceLeDiff, Nat.reduceLT, ↓reduceIte, hS, hZ, hk]; done)) | (simp (disch := omega) only [push_cast, Int.reduceAdd, Nat.reduceEqDiff, Nat.reduceAdd, Nat.reduceSub, Nat.reduceMul, Nat.reduceLeDiff, Nat.reduceLT, ↓reduceIte, hS, hZ, hk] <;> first | rfl | omega) | omega)
    rintro n2 s2 ⟨k2, rest2, hn2, hp02, hnl2, hS2⟩
    have hZ2 : (0 : Nat) ≠ s2.nx ∧ s2.nx ≠ (0 : Nat) ∧ (1 : Nat) ≠ s2.nx ∧ s2.nx ≠ (1 : Nat) := by omega
    rcases rest2 with _ | ⟨x2, rest2⟩
    · have hk2 := drop_nil hp02
      repeat' first
        | refine AW.seq ?_ | refine AW.region ?_ | refine AW.ret ?_ | refine AW.block ?_ | refine AW.skip ?_ | refine AW.exit ?_ | refine AW.scope ?_ | refine AW.label ?_ | refine AWL.nil ?_ | refine D.nil ?_
        | refine W.draw cx_mixed (by decide +kernel) ?_
        | ((first | (apply W.step cx_ok; decide) | (apply D.step cx_ok; decide; decide) | apply W.store cx_ok | (apply W.gS; rfl; decide) | (apply D.gS; rfl; decide; decide) | apply AW.cond); (simp (disch := omega) only [push_cast, Int.reduceAdd, Nat.reduceEqDiff, Nat.reduceAdd, Nat.reduceSub, Nat.reduceMul, Nat.reduceLeDiff, Nat.reduceLT, ↓reduceIte, hS2, hZ2, hk2] <;> rfl); all_goals (try ((with_reducible intro hI); first | (cases hI; done) | (simp only [INTS] at hI; first | (exfalso; omega) | (have hT : True := hI; clear hT hI) | skip) | skip)))
        | ((first | (apply W.gU; rfl; decide) | (apply D.gU; rfl; decide; decide)); (simp (disch := omega) only [push_cast, Int.reduceAdd, Nat.reduceEqDiff, Nat.reduceAdd, Nat.reduceSub, Nat.reduceMul, Nat.reduceLeDiff, Nat.reduceLT, ↓reduceIte, hS2, hZ2, hk2] <;> rfl))
        | ((first | (apply W.callv cx_ok; decide) | (apply D.callv cx_ok; decide; decide)); (iterate 2 (simp (disch := omega) only [push_cast, Int.reduceAdd, Nat.reduceEqDiff, Nat.reduceAdd, Nat.reduceSub, Nat.reduceMul, Nat.reduceLeDiff, Nat.reduceLT, ↓reduceIte, hS2, hZ2, hk2] <;> rfl)); (with_reducible first | exact SameSpans_ok _ (by have := hds _ hm2; omega)); try first | rfl | (simp (disch := omega) only [push_cast, Int.reduceAdd, Nat.reduceEqDiff, Nat.reduceAdd, Nat.reduceSub, Nat.reduceMul, Nat.reduceLeDiff, Nat.reduceLT, ↓reduceIte, hS2, hZ2, hk2] <;> rfl))
        | ((first | apply W.retC | apply W.endC' | apply W.retM | apply W.endM' | apply W.ret1 | apply W.end1 | apply W.ret2 | apply W.end2 | apply W.ret3 | apply W.end3 | apply W.ret0 | apply W.end0); (iterate 2 (try (simp (disch := omega) only [push_cast, Int.reduceAdd, Nat.reduceEqDiff, Nat.reduceAdd, Nat.reduceSub, Nat.reduceMul, Nat.reduceLeDiff, Nat.reduceLT, ↓reduceIte, hS2, hZ2, hk2] <;> rfl))); (skip))
      refine AW.loop (fun n s => ∃ (k : Nat) (rest : List Way), n = rest.length ∧ (h.ways.drop k = rest) ∧ 2 ≤ s.nx ∧ s.tm 2 = .ptr 0 0 0 1 ∧ s.tm 3 = .ptr 1 0 0 1 ∧ s.tm 9 = ai k ∧ Pg.rowAt s.H (0) = some ({ k := 3, es := [eHouse h], ty := 26 }) ∧ Pg.rowAt s.H (1) = some ({ k := 3, es := [eHouse h], ty := 26 })) (h.ways.length) ⟨0, _, rfl, rfl, ?_, ?_, ?_, ?_, ?_, ?_⟩ ?_
      iterate 6 (first | ((simp (disch := omega) only [push_cast, Int.reduceAdd, Nat.reduceEqDiff, Nat.reduceAdd, Nat.reduceSub, Nat.reduceMul, Nat.reduceLeDiff, Nat.reduceLT, ↓reduceIte, hS2, hZ2, hk2]; done)) | (simp (disch := omega) only [push_cast, Int.reduceAdd, Nat.reduceEqDiff, Nat.reduceAdd, Nat.reduceSub, Nat.reduceMul, Nat.reduceLeDiff, Nat.reduceLT, ↓reduceIte, hS2, hZ2, hk2] <;> first | rfl | omega) | omega)
      rintro n3 s3 ⟨k3, rest3, hn3, hp03, hnl3, hS3⟩
      have hZ3 : (0 : Nat) ≠ s3.nx ∧ s3.nx ≠ (0 : Nat) ∧ (1 : Nat) ≠ s3.nx ∧ s3.nx ≠ (1 : Nat) := by omega
      rcases rest3 with _ | ⟨x3, rest3⟩
      · have hk3 := drop_nil hp03
        repeat' first
          | refine AW.seq ?_ | refine AW.region ?_ | refine AW.ret ?_ | refine AW.block ?_ | refine AW.skip ?_ | refine AW.exit ?_ | refine AW.scope ?_ | refine AW.label ?_ | refine AWL.nil ?_ | refine D.nil ?_
          | refine W.draw cx_mixed (by decide +kernel) ?_
          | ((first | (apply W.step cx_ok; decide) | (apply D.step cx_ok; decide; decide) | apply W.store cx_ok | (apply W.gS; rfl; decide) | (apply D.gS; rfl; decide; decide) | apply AW.cond); (simp (disch := omega) only [push_cast, Int.reduceAdd, Nat.reduceEqDiff, Nat.reduceAdd, Nat.reduceSub, Nat.reduceMul, Nat.reduceLeDiff, Nat.reduceLT, ↓reduceIte, hS3, hZ3, hk3] <;> rfl); all_goals (try ((with_reducible intro hI); first | (cases hI; done) | (simp only [INTS] at hI; first | (exfalso; omega) | (have hT : True := hI; clear hT hI) | skip) | skip)))
          | ((first | (apply W.gU; rfl; decide) | (apply D.gU; rfl; decide; decide)); (simp (disch := omega) only [push_cast, Int.reduceAdd, Nat.reduceEqDiff, Nat.reduceAdd, Nat.reduceSub, Nat.reduceMul, Nat.reduceLeDiff, Nat.reduceLT, ↓reduceIte, hS3, hZ3, hk3] <;> rfl))
          | ((first | apply W.retC | apply W.endC' | apply W.retM | apply W.endM' | apply W.ret1 | apply W.end1 | apply W.ret2 | apply W.end2 | apply W.ret3 | apply W.end3 | apply W.ret0 | apply W.end0); (iterate 2 (try (simp (disch := omega) only [push_cast, Int.reduceAdd, Nat.reduceEqDiff, Nat.reduceAdd, Nat.reduceSub, Nat.reduceMul, Nat.reduceLeDiff, Nat.reduceLT, ↓reduceIte, hS3, hZ3, hk3] <;> rfl))); (skip))
        all_goals (show _ = _; rfl)
      · obtain ⟨hk3, hg3, hd'3, hl'3, hm3, hx3⟩ := drop_cons hp03 eWay []
        repeat' first
          | refine AW.seq ?_ | refine AW.region ?_ | refine AW.ret ?_ | refine AW.block ?_ | refine AW.skip ?_ | refine AW.exit ?_ | refine AW.scope ?_ | refine AW.label ?_ | refine AWL.nil ?_ | refine D.nil ?_
          | refine W.draw cx_mixed (by decide +kernel) ?_
          | ((first | (apply W.step cx_ok; decide) | (apply D.step cx_ok; decide; decide) | apply W.store cx_ok | (apply W.gS; rfl; decide) | (apply D.gS; rfl; decide; decide) | apply AW.cond); (simp (disch := omega) only [push_cast, Int.reduceAdd, Nat.reduceEqDiff, Nat.reduceAdd, Nat.reduceSub, Nat.reduceMul, Nat.reduceLeDiff, Nat.reduceLT, ↓reduceIte, hS3, hZ3, hk3, hg3] <;> rfl); all_goals (try ((with_reducible intro hI); first | (cases hI; done) | (simp only [INTS] at hI; first | (exfalso; omega) | (have hT : True := hI; clear hT hI) | skip) | skip)))
          | ((first | (apply W.gU; rfl; decide) | (apply D.gU; rfl; decide; decide)); (simp (disch := omega) only [push_cast, Int.reduceAdd, Nat.reduceEqDiff, Nat.reduceAdd, Nat.reduceSub, Nat.reduceMul, Nat.reduceLeDiff, Nat.reduceLT, ↓reduceIte, hS3, hZ3, hk3, hg3] <;> rfl))
          | ((first | apply W.retC | apply W.endC' | apply W.retM | apply W.endM' | apply W.ret1 | apply W.end1 | apply W.ret2 | apply W.end2 | apply W.ret3 | apply W.end3 | apply W.ret0 | apply W.end0); (iterate 2 (try (simp (disch := omega) only [push_cast, Int.reduceAdd, Nat.reduceEqDiff, Nat.reduceAdd, Nat.reduceSub, Nat.reduceMul, Nat.reduceLeDiff, Nat.reduceLT, ↓reduceIte, hS3, hZ3, hk3, hg3] <;> rfl))); (skip))
        all_goals first
          | (exfalso; first | exact absurd trivial (by assumption) | omega | (simp_all; done))
          | (refine ⟨rest3.length, ?_, k3 + 1, rest3, rfl, hd'3, ?_, ?_, ?_, ?_, ?_, ?_⟩; ((simp only [List.length_cons] at *; omega)); all_goals (first | (simp (disch := omega) only [push_cast, Int.reduceAdd, Nat.reduceEqDiff, Nat.reduceAdd, Nat.reduceSub, Nat.reduceMul, Nat.reduceLeDiff, Nat.reduceLT, ↓reduceIte, hS3, hZ3, hg3, hk3]; done) | (simp (disch := omega) only [push_cast, Int.reduceAdd, Nat.reduceEqDiff, Nat.reduceAdd, Nat.reduceSub, Nat.reduceMul, Nat.reduceLeDiff, Nat.reduceLT, ↓reduceIte, hS3, hZ3, hg3, hk3] <;> first | rfl | omega) | omega))
    · obtain ⟨hk2, hg2, hd'2, hl'2, hm2, hx2⟩ := drop_cons hp02 eDoor []
      repeat' first
        | refine AW.seq ?_ | refine AW.region ?_ | refine AW.ret ?_ | refine AW.block ?_ | refine AW.skip ?_ | refine AW.exit ?_ | refine AW.scope ?_ | refine AW.label ?_ | refine AWL.nil ?_ | refine D.nil ?_
        | refine W.draw cx_mixed (by decide +kernel) ?_
        | ((first | (apply W.step cx_ok; decide) | (apply D.step cx_ok; decide; decide) | apply W.store cx_ok | (apply W.gS; rfl; decide) | (apply D.gS; rfl; decide; decide) | apply AW.cond); (simp (disch := omega) only [push_cast, Int.reduceAdd, Nat.reduceEqDiff, Nat.reduceAdd, Nat.reduceSub, Nat.reduceMul, Nat.reduceLeDiff, Nat.reduceLT, ↓reduceIte, hS2, hZ2, hk2, hg2] <;> rfl); all_goals (try ((with_reducible intro hI); first | (cases hI; done) | (simp only [INTS] at hI; first | (exfalso; omega) | (have hT : True := hI; clear hT hI) | skip) | skip)))
        | ((first | (apply W.gU; rfl; decide) | (apply D.gU; rfl; decide; decide)); (simp (disch := omega) only [push_cast, Int.reduceAdd, Nat.reduceEqDiff, Nat.reduceAdd, Nat.reduceSub, Nat.reduceMul, Nat.reduceLeDiff, Nat.reduceLT, ↓reduceIte, hS2, hZ2, hk2, hg2] <;> rfl))
        | ((first | (apply W.callv cx_ok; decide) | (apply D.callv cx_ok; decide; decide)); (iterate 2 (simp (disch := omega) only [push_cast, Int.reduceAdd, Nat.reduceEqDiff, Nat.reduceAdd, Nat.reduceSub, Nat.reduceMul, Nat.reduceLeDiff, Nat.reduceLT, ↓reduceIte, hS2, hZ2, hk2, hg2] <;> rfl)); (with_reducible first | exact SameSpans_ok _ (by have := hds _ hm2; omega)); try first | rfl | (simp (disch := omega) only [push_cast, Int.reduceAdd, Nat.reduceEqDiff, Nat.reduceAdd, Nat.reduceSub, Nat.reduceMul, Nat.reduceLeDiff, Nat.reduceLT, ↓reduceIte, hS2, hZ2, hk2, hg2] <;> rfl))
        | ((first | apply W.retC | apply W.endC' | apply W.retM | apply W.endM' | apply W.ret1 | apply W.end1 | apply W.ret2 | apply W.end2 | apply W.ret3 | apply W.end3 | apply W.ret0 | apply W.end0); (iterate 2 (try (simp (disch := omega) only [push_cast, Int.reduceAdd, Nat.reduceEqDiff, Nat.reduceAdd, Nat.reduceSub, Nat.reduceMul, Nat.reduceLeDiff, Nat.reduceLT, ↓reduceIte, hS2, hZ2, hk2, hg2] <;> rfl))); (skip))
      all_goals first
        | (exfalso; first | exact absurd trivial (by assumption) | omega | (simp_all; done))
        | (refine ⟨rest2.length, ?_, k2 + 1, rest2, rfl, hd'2, ?_, ?_, ?_, ?_, ?_, ?_⟩; ((simp only [List.length_cons] at *; omega)); all_goals (first | (simp (disch := omega) only [push_cast, Int.reduceAdd, Nat.reduceEqDiff, Nat.reduceAdd, Nat.reduceSub, Nat.reduceMul, Nat.reduceLeDiff, Nat.reduceLT, ↓reduceIte, hS2, hZ2, hg2, hk2]; done) | (simp (disch := omega) only [push_cast, Int.reduceAdd, Nat.reduceEqDiff, Nat.reduceAdd, Nat.reduceSub, Nat.reduceMul, Nat.reduceLeDiff, Nat.reduceLT, ↓reduceIte, hS2, hZ2, hg2, hk2] <;> first | rfl | omega) | omega))
  · obtain ⟨hk, hg, hd', hl', hm, hx⟩ := drop_cons hp0 eRoom []
    repeat' first
      | refine AW.seq ?_ | refine AW.region ?_ | refine AW.ret ?_ | refine AW.block ?_ | refine AW.skip ?_ | refine AW.exit ?_ | refine AW.scope ?_ | refine AW.label ?_ | refine AWL.nil ?_ | refine D.nil ?_
      | refine W.draw cx_mixed (by decide +kernel) ?_
      | ((first | (apply W.step cx_ok; decide) | (apply D.step cx_ok; decide; decide) | apply W.store cx_ok | (apply W.gS; rfl; decide) | (apply D.gS; rfl; decide; decide) | apply AW.cond); (simp (disch := omega) only [push_cast, Int.reduceAdd, Nat.reduceEqDiff, Nat.reduceAdd, Nat.reduceSub, Nat.reduceMul, Nat.reduceLeDiff, Nat.reduceLT, ↓reduceIte, hS, hZ, hk, hg] <;> rfl); all_goals (try ((with_reducible intro hI); first | (cases hI; done) | (simp only [INTS] at hI; first | (exfalso; omega) | (have hT : True := hI; clear hT hI) | skip) | skip)))
      | ((first | (apply W.gU; rfl; decide) | (apply D.gU; rfl; decide; decide)); (simp (disch := omega) only [push_cast, Int.reduceAdd, Nat.reduceEqDiff, Nat.reduceAdd, Nat.reduceSub, Nat.reduceMul, Nat.reduceLeDiff, Nat.reduceLT, ↓reduceIte, hS, hZ, hk, hg] <;> rfl))
      | ((first | apply W.retC | apply W.endC' | apply W.retM | apply W.endM' | apply W.ret1 | apply W.end1 | apply W.ret2 | apply W.end2 | apply W.ret3 | apply W.end3 | apply W.ret0 | apply W.end0); (iterate 2 (try (simp (disch := omega) only [push_cast, Int.reduceAdd, Nat.reduceEqDiff, Nat.reduceAdd, Nat.reduceSub, Nat.reduceMul, Nat.reduceLeDiff, Nat.reduceLT, ↓reduceIte, hS, hZ, hk, hg] <;> rfl))); (skip))
    all_goals first
      | (exfalso; first | exact absurd trivial (by assumption) | omega | (simp_all; done))
      | (refine ⟨rest.length, ?_, k + 1, rest, rfl, hd', ?_, ?_, ?_, ?_, ?_, ?_⟩; ((simp only [List.length_cons] at *; omega)); all_goals (first | (simp (disch := omega) only [push_cast, Int.reduceAdd, Nat.reduceEqDiff, Nat.reduceAdd, Nat.reduceSub, Nat.reduceMul, Nat.reduceLeDiff, Nat.reduceLT, ↓reduceIte, hS, hZ, hg, hk]; done) | (simp (disch := omega) only [push_cast, Int.reduceAdd, Nat.reduceEqDiff, Nat.reduceAdd, Nat.reduceSub, Nat.reduceMul, Nat.reduceLeDiff, Nat.reduceLT, ↓reduceIte, hS, hZ, hg, hk] <;> first | rfl | omega) | omega))

def doorRE (h : House) (n t : Int) : Int := if (Check h).1 = 0 ∧ (¬ (0 ≤ n ∧ n < (h.doors.length : Int)) ∨ ¬ timeOK t) then 1 else (Check h).1
theorem doorR_ok (h : House) (n t : Int) (hfit : h.Fit) : OKv cx 81 [.agg (eHouse h), ai n, ai t] (ai (doorRE h n t)) := by
  have hfd := hfit.nd
  refine OKat.of_body (rs := [6]) Tryd.func81 rfl (by decide +kernel) rfl (by simp [Tryd.ntmps81]) ?_
  simp only [Tryd.ntmps81]
  repeat' first
    | refine AW.seq ?_ | refine AW.region ?_ | refine AW.ret ?_ | refine AW.block ?_ | refine AW.skip ?_ | refine AW.exit ?_ | refine AW.scope ?_ | refine AW.label ?_ | refine AWL.nil ?_ | refine D.nil ?_
    | refine W.draw cx_mixed (by decide +kernel) ?_
    | ((first | (apply W.step cx_ok; decide) | (apply D.step cx_ok; decide; decide) | apply W.store cx_ok | (apply W.gS; rfl; decide) | (apply D.gS; rfl; decide; decide) | apply AW.cond); (simp (disch := omega) only [push_cast, Int.reduceAdd, Nat.reduceEqDiff, Nat.reduceAdd, Nat.reduceSub, Nat.reduceMul, Nat.reduceLeDiff, Nat.reduceLT, ↓reduceIte] <;> rfl); all_goals (try ((with_reducible intro hI); first | (cases hI; done) | (simp only [INTS] at hI; first | (exfalso; omega) | (have hT : True := hI; clear hT hI) | skip) | skip)))
    | ((first | (apply W.gU; rfl; decide) | (apply D.gU; rfl; decide; decide)); (simp (disch := omega) only [push_cast, Int.reduceAdd, Nat.reduceEqDiff, Nat.reduceAdd, Nat.reduceSub, Nat.reduceMul, Nat.reduceLeDiff, Nat.reduceLT, ↓reduceIte] <;> rfl))
    | ((first | (apply W.callv cx_ok; decide) | (apply D.callv cx_ok; decide; decide)); (iterate 2 (simp (disch := omega) only [push_cast, Int.reduceAdd, Nat.reduceEqDiff, Nat.reduceAdd, Nat.reduceSub, Nat.reduceMul, Nat.reduceLeDiff, Nat.reduceLT, ↓reduceIte] <;> rfl)); (with_reducible first | exact Error_ok _ hfit | exact In_ok _ _ _ | exact Time_ok _); try first | rfl | (simp (disch := omega) only [push_cast, Int.reduceAdd, Nat.reduceEqDiff, Nat.reduceAdd, Nat.reduceSub, Nat.reduceMul, Nat.reduceLeDiff, Nat.reduceLT, ↓reduceIte] <;> rfl))
    | ((first | apply W.retC | apply W.endC' | apply W.retM | apply W.endM' | apply W.ret1 | apply W.end1 | apply W.ret2 | apply W.end2 | apply W.ret3 | apply W.end3 | apply W.ret0 | apply W.end0); (iterate 2 (try (simp (disch := omega) only [push_cast, Int.reduceAdd, Nat.reduceEqDiff, Nat.reduceAdd, Nat.reduceSub, Nat.reduceMul, Nat.reduceLeDiff, Nat.reduceLT, ↓reduceIte] <;> rfl))); (skip))
  all_goals (show _ = _; unfold doorRE timeOK; first | (rw [if_pos (by first | omega | (refine ⟨by assumption, ?_⟩; omega))]; done) | (rw [if_neg (by first | omega | (rintro ⟨_, hx⟩; omega))]; done))
theorem doorE_one (h : House) (n t : Int) : doorE h n [t] = doorRE h n t := by
  unfold doorE doorRE askedE
  by_cases hc : (Check h).1 = 0
  · by_cases hn : 0 ≤ n ∧ n < (h.doors.length : Int)
    · by_cases ht : timeOK t
      · have ht' := ht
        unfold timeOK at ht'
        simp [hc, hn, ht, timeB, ht'.1, ht'.2]
      · have ht' := ht
        unfold timeOK at ht'
        have hb : timeB t = false := by unfold timeB; rw [Bool.and_eq_false_iff, decide_eq_false_iff_not, decide_eq_false_iff_not]; omega
        simp [hc, hn, ht, hb]
    · simp [hc, hn]
  · simp [hc]
theorem doorE_nil (h : House) (n : Int) : doorE h n [] = doorRE h n 0 := by
  rw [← doorE_one]
  unfold doorE askedE
  simp [timeB]

end Go.Proofs.Hs

set_option maxHeartbeats 8000000
set_option linter.unusedSimpArgs false
set_option linter.unusedVariables false
set_option maxRecDepth 10000
namespace Go.Proofs.Hs
open Go Go.Pg Go.Proofs

def shutDoorR (h : House) (n : Int) (s : Span) : House × Int :=
  if doorRE h n 0 ≠ 0 then (.zero, doorRE h n 0) else if s.hi < s.lo ∨ timeB s.lo = false ∨ timeB s.hi = false then (.zero, 1) else
  if 8 < (shutR (h.door n).shut s).length then (.zero, 2) else (⟨h.rooms, setDoor h n.toNat (shutR (h.door n).shut s), h.ways⟩, 0)
theorem shutDoor_eq (h : House) (n : Int) (s : Span) : shutDoor h n s = shutDoorR h n s := by
  unfold shutDoor shutDoorR
  rw [doorE_nil]
  split
  · rfl
  · rename_i he
    have he' : doorE h n [] = 0 := by rw [doorE_nil]; simpa using he
    obtain ⟨hc, hn, _⟩ := doorE_zero he'
    have hdv := (Check_V hc).door hn.1 hn.2
    split
    · rfl
    · rename_i hs
      rw [shut_eq _ _ (by omega) (fun x hx => (hdv.shut.2.1 x hx).2.1) hdv.shut.2.2]

theorem keepR_len : ∀ (l : List Span) (s : Span), (keepR l s).1.length ≤ l.length
  | [], _ => Nat.le_refl _
  | x :: rest, s => by
    unfold keepR
    split
    · have := keepR_len rest s; simp; omega
    · have := keepR_len rest (mergeS s x); simp; omega

theorem ShutR_ok (h : House) (n0 : Int) (sp : Span) (hfit : h.Fit) : OKv cx 25 [.agg (eHouse h), ai n0, .agg (eSpan sp)] (.tup [.agg (eHouse (shutDoorR h n0 sp).1), ai (shutDoorR h n0 sp).2]) := by
  have hfr := hfit.rooms
  have hfw := hfit.nw
  have hfd := hfit.nd
  by_cases he : doorRE h n0 0 = 0
  · obtain ⟨hc, ⟨hdn, hdl⟩, _⟩ := doorE_zero (h := h) (n := n0) (ts := []) (by rw [doorE_nil]; exact he)
    have hv := Check_V hc
    have hdv := hv.door hdn hdl
    have hdg : (h.doors.map eDoor).getD n0.toNat [] = eDoor (h.door n0) := getD_map eDoor h.doors _ [] ⟨[], []⟩ (by omega)
    by_cases hsp : sp.hi < sp.lo ∨ timeB sp.lo = false ∨ timeB sp.hi = false
    · have hS : shutDoorR h n0 sp = (.zero, 1) := by unfold shutDoorR; rw [if_neg (by simp [he]), if_pos hsp]
      refine OKat.of_bodyC cx_ok (rs := [.cell 6 26, .tmp 7]) Tryd.func25 rfl (by decide +kernel) rfl (by decide) (by simp [Tryd.ntmps25]) ?_
      simp only [Tryd.ntmps25]
      repeat' first
        | refine AW.seq ?_ | refine AW.region ?_ | refine AW.ret ?_ | refine AW.block ?_ | refine AW.skip ?_ | refine AW.exit ?_ | refine AW.scope ?_ | refine AW.label ?_ | refine AWL.nil ?_ | refine D.nil ?_
        | refine W.draw cx_mixed (by decide +kernel) ?_
        | ((first | (apply W.step cx_ok; decide) | (apply D.step cx_ok; decide; decide) | apply W.store cx_ok | (apply W.gS; rfl; decide) | (apply D.gS; rfl; decide; decide) | apply AW.cond); (simp (disch := omega) only [push_cast, Int.reduceAdd, Nat.reduceEqDiff, Nat.reduceAdd, Nat.reduceSub, Nat.reduceMul, Nat.reduceLeDiff, Nat.reduceLT, ↓reduceIte, he] <;> rfl); all_goals (try ((with_reducible intro hI); first | (cases hI; done) | (simp only [INTS] at hI; first | (exfalso; omega) | (have hT : True := hI; clear hT hI) | skip) | skip)))
        | ((first | (apply W.gU; rfl; decide) | (apply D.gU; rfl; decide; decide)); (simp (disch := omega) only [push_cast, Int.reduceAdd, Nat.reduceEqDiff, Nat.reduceAdd, Nat.reduceSub, Nat.reduceMul, Nat.reduceLeDiff, Nat.reduceLT, ↓reduceIte, he] <;> rfl))
        | ((first | (apply W.callv cx_ok; decide) | (apply D.callv cx_ok; decide; decide)); (iterate 2 (simp (disch := omega) only [push_cast, Int.reduceAdd, Nat.reduceEqDiff, Nat.reduceAdd, Nat.reduceSub, Nat.reduceMul, Nat.reduceLeDiff, Nat.reduceLT, ↓reduceIte, he] <;> rfl)); (with_reducible first | exact doorR_ok _ _ _ hfit | exact Time_ok _); try first | rfl | (simp (disch := omega) only [push_cast, Int.reduceAdd, Nat.reduceEqDiff, Nat.reduceAdd, Nat.reduceSub, Nat.reduceMul, Nat.reduceLeDiff, Nat.reduceLT, ↓reduceIte, he] <;> rfl))
        | ((first | apply W.retC | apply W.endC' | apply W.retM | apply W.endM' | apply W.ret1 | apply W.end1 | apply W.ret2 | apply W.end2 | apply W.ret3 | apply W.end3 | apply W.ret0 | apply W.end0); (iterate 2 (try (simp (disch := omega) only [push_cast, Int.reduceAdd, Nat.reduceEqDiff, Nat.reduceAdd, Nat.reduceSub, Nat.reduceMul, Nat.reduceLeDiff, Nat.reduceLT, ↓reduceIte, he] <;> rfl))); (skip))
      all_goals first
        | (show _ = _; rw [hS]; rfl)
        | (exfalso; unfold timeB at hsp; simp only [Bool.and_eq_false_iff, decide_eq_false_iff_not] at hsp; omega)
    · have hspb : 0 ≤ sp.lo ∧ sp.lo ≤ sp.hi ∧ sp.hi ≤ 1073741823 := by unfold timeB at hsp; simp only [not_or, Bool.not_eq_false, Bool.and_eq_true, decide_eq_true_eq] at hsp; omega
      have hs1 := hspb.1
      have hs2 := hspb.2.1
      have hs3 := hspb.2.2
      have hS : shutDoorR h n0 sp = if 8 < (shutR (h.door n0).shut sp).length then (.zero, 2) else (⟨h.rooms, setDoor h n0.toNat (shutR (h.door n0).shut sp), h.ways⟩, 0) := by unfold shutDoorR; rw [if_neg (by simp [he]), if_neg hsp]
      have hshl := hdv.shut.1
      have hshb := hdv.shut.2.1
      rw [hS]
      refine OKat.of_bodyC cx_ok (rs := [.cell 6 26, .tmp 7]) Tryd.func25 rfl (by decide +kernel) rfl (by decide) (by simp [Tryd.ntmps25]) ?_
      simp only [Tryd.ntmps25]
      repeat' first
        | refine AW.seq ?_ | refine AW.region ?_ | refine AW.ret ?_ | refine AW.block ?_ | refine AW.skip ?_ | refine AW.exit ?_ | refine AW.scope ?_ | refine AW.label ?_ | refine AWL.nil ?_ | refine D.nil ?_
        | refine W.draw cx_mixed (by decide +kernel) ?_
        | ((first | (apply W.step cx_ok; decide) | (apply D.step cx_ok; decide; decide) | apply W.store cx_ok | (apply W.gS; rfl; decide) | (apply D.gS; rfl; decide; decide) | apply AW.cond); (simp (disch := omega) only [push_cast, Int.reduceAdd, Nat.reduceEqDiff, Nat.reduceAdd, Nat.reduceSub, Nat.reduceMul, Nat.reduceLeDiff, Nat.reduceLT, ↓reduceIte, he, hdn, hdl, hdg, hs1, hs2, hs3] <;> rfl); all_goals (try ((with_reducible intro hI); first | (cases hI; done) | (simp only [INTS] at hI; first | (exfalso; omega) | (have hT : True := hI; clear hT hI) | skip) | skip)))
        | ((first | (apply W.gU; rfl; decide) | (apply D.gU; rfl; decide; decide)); (simp (disch := omega) only [push_cast, Int.reduceAdd, Nat.reduceEqDiff, Nat.reduceAdd, Nat.reduceSub, Nat.reduceMul, Nat.reduceLeDiff, Nat.reduceLT, ↓reduceIte, he, hdn, hdl, hdg, hs1, hs2, hs3] <;> rfl))
        | ((first | (apply W.callv cx_ok; decide) | (apply D.callv cx_ok; decide; decide)); (iterate 2 (simp (disch := omega) only [push_cast, Int.reduceAdd, Nat.reduceEqDiff, Nat.reduceAdd, Nat.reduceSub, Nat.reduceMul, Nat.reduceLeDiff, Nat.reduceLT, ↓reduceIte, he, hdn, hdl, hdg, hs1, hs2, hs3] <;> rfl)); (with_reducible first | exact doorR_ok _ _ _ hfit | exact Time_ok _); try first | rfl | (simp (disch := omega) only [push_cast, Int.reduceAdd, Nat.reduceEqDiff, Nat.reduceAdd, Nat.reduceSub, Nat.reduceMul, Nat.reduceLeDiff, Nat.reduceLT, ↓reduceIte, he, hdn, hdl, hdg, hs1, hs2, hs3] <;> rfl))
        | ((first | apply W.retC | apply W.endC' | apply W.retM | apply W.endM' | apply W.ret1 | apply W.end1 | apply W.ret2 | apply W.end2 | apply W.ret3 | apply W.end3 | apply W.ret0 | apply W.end0); (iterate 2 (try (simp (disch := omega) only [push_cast, Int.reduceAdd, Nat.reduceEqDiff, Nat.reduceAdd, Nat.reduceSub, Nat.reduceMul, Nat.reduceLeDiff, Nat.reduceLT, ↓reduceIte, he, hdn, hdl, hdg, hs1, hs2, hs3] <;> rfl))); (skip))
      all_goals try (exfalso; omega)
      generalize hsh : (h.door n0).shut = sh at *
      refine AW.adopt 9 2 38 ?_ ?_
      · simp (disch := omega) only [push_cast, Int.reduceAdd, Nat.reduceEqDiff, Nat.reduceAdd, Nat.reduceSub, Nat.reduceMul, Nat.reduceLeDiff, Nat.reduceLT, ↓reduceIte, he, hdn, hdl, hdg, hsh]
      refine AW.loop (fun n s => ∃ (k : Nat) (out : List Span) (s1 : Span) (rest : List Span), n = rest.length ∧ (sh.drop k = rest) ∧ (out ++ (keepR rest s1).1 = (keepR sh sp).1 ∧ (keepR rest s1).2 = (keepR sh sp).2) ∧ (out.length ≤ k ∧ k ≤ sh.length) ∧ (0 ≤ s1.lo ∧ s1.lo ≤ s1.hi ∧ s1.hi ≤ 1073741823) ∧ 4 ≤ s.nx ∧ s.tm 1 = ai n0 ∧ s.tm 3 = .ptr 0 0 0 1 ∧ s.tm 5 = .ptr 1 0 0 1 ∧ s.tm 6 = .ptr 2 0 0 1 ∧ s.tm 9 = .ref 3 0 out.length ∧ s.tm 10 = lSpan sh ∧ s.tm 11 = ai k ∧ Pg.rowAt s.H (0) = some ({ k := 3, es := [eHouse h], ty := 26 }) ∧ Pg.rowAt s.H (1) = some ({ k := 2, es := [eSpan s1], ty := 38 }) ∧ Pg.rowAt s.H (2) = some ({ k := 3, es := [[.v (.slice none 0 0), .v (.slice none 0 0), .v (.slice none 0 0)]], ty := 26 }) ∧ Pg.rowAt s.H (3) = some ({ k := 2, es := out.map eSpan, ty := 38, lo := out.length })) (sh.length) ⟨0, [], sp, _, rfl, rfl, ⟨rfl, rfl⟩, ⟨Nat.zero_le _, Nat.zero_le _⟩, hspb, ?_, ?_, ?_, ?_, ?_, ?_, ?_, ?_, ?_, ?_, ?_, ?_⟩ ?_
      iterate 12 (first | ((simp (disch := omega) only [push_cast, Int.reduceAdd, Nat.reduceEqDiff, Nat.reduceAdd, Nat.reduceSub, Nat.reduceMul, Nat.reduceLeDiff, Nat.reduceLT, ↓reduceIte, he, hdn, hdl, hdg, hsh]; done)) | (simp (disch := omega) only [push_cast, Int.reduceAdd, Nat.reduceEqDiff, Nat.reduceAdd, Nat.reduceSub, Nat.reduceMul, Nat.reduceLeDiff, Nat.reduceLT, ↓reduceIte, he, hdn, hdl, hdg, hsh] <;> first | rfl | omega) | omega)
      rintro n1_ s1_ ⟨k1_, out1_, s11_, rest1_, hn1_, hp01_, hp11_, hp21_, hp31_, hnl1_, hS1_⟩
      have hZ1_ : (0 : Nat) ≠ s1_.nx ∧ s1_.nx ≠ (0 : Nat) ∧ (1 : Nat) ≠ s1_.nx ∧ s1_.nx ≠ (1 : Nat) ∧ (2 : Nat) ≠ s1_.nx ∧ s1_.nx ≠ (2 : Nat) ∧ (3 : Nat) ≠ s1_.nx ∧ s1_.nx ≠ (3 : Nat) := by omega
      obtain ⟨b1, b2, b3⟩ := hp31_
      obtain ⟨e1, e2⟩ := hp11_
      rcases rest1_ with _ | ⟨x, rest1_⟩
      · have hk1_ := drop_nil hp01_
        have hkl := keepR_len sh sp
        have ho : out1_ = (keepR sh sp).1 := by simpa [keepR] using e1
        have hs : s11_ = (keepR sh sp).2 := by simpa [keepR] using e2
        have hR : shutR sh sp = out1_.take (aheadR s11_ out1_) ++ s11_ :: out1_.drop (aheadR s11_ out1_) := by rw [ho, hs]; rfl
        generalize shutR sh sp = lst at *
        clear ho hs e1 e2
        generalize hfin : s11_ = fin at *
        generalize hkept : out1_ = kept at *
        have hkl2 : kept.length ≤ 8 := by omega
        repeat' first
          | refine AW.seq ?_ | refine AW.region ?_ | refine AW.ret ?_ | refine AW.block ?_ | refine AW.skip ?_ | refine AW.exit ?_ | refine AW.scope ?_ | refine AW.label ?_ | refine AWL.nil ?_ | refine D.nil ?_
          | refine W.draw cx_mixed (by decide +kernel) ?_
          | ((first | (apply W.step cx_ok; decide) | (apply D.step cx_ok; decide; decide) | apply W.store cx_ok | (apply W.gS; rfl; decide) | (apply D.gS; rfl; decide; decide) | apply AW.cond); (simp (disch := omega) only [push_cast, Int.reduceAdd, Nat.reduceEqDiff, Nat.reduceAdd, Nat.reduceSub, Nat.reduceMul, Nat.reduceLeDiff, Nat.reduceLT, ↓reduceIte, hS1_, hZ1_, hdn, hdl, hdg, hsh, hk1_] <;> rfl); all_goals (try ((with_reducible intro hI); first | (cases hI; done) | (simp only [INTS] at hI; first | (exfalso; omega) | (have hT : True := hI; clear hT hI) | skip) | skip)))
          | ((first | (apply W.gU; rfl; decide) | (apply D.gU; rfl; decide; decide)); (simp (disch := omega) only [push_cast, Int.reduceAdd, Nat.reduceEqDiff, Nat.reduceAdd, Nat.reduceSub, Nat.reduceMul, Nat.reduceLeDiff, Nat.reduceLT, ↓reduceIte, hS1_, hZ1_, hdn, hdl, hdg, hsh, hk1_] <;> rfl))
          | ((first | apply W.retC | apply W.endC' | apply W.retM | apply W.endM' | apply W.ret1 | apply W.end1 | apply W.ret2 | apply W.end2 | apply W.ret3 | apply W.end3 | apply W.ret0 | apply W.end0); (iterate 2 (try (simp (disch := omega) only [push_cast, Int.reduceAdd, Nat.reduceEqDiff, Nat.reduceAdd, Nat.reduceSub, Nat.reduceMul, Nat.reduceLeDiff, Nat.reduceLT, ↓reduceIte, hS1_, hZ1_, hdn, hdl, hdg, hsh, hk1_] <;> rfl))); (skip))
        refine AW.freeze (t := 9) (v := lSpan kept) (by simp (disch := omega) only [push_cast, Int.reduceAdd, Nat.reduceEqDiff, Nat.reduceAdd, Nat.reduceSub, Nat.reduceMul, Nat.reduceLeDiff, Nat.reduceLT, ↓reduceIte, hS1_, hZ1_, hdn, hdl, hdg, hsh, hk1_]) ?_
        refine AW.loop (fun n s => ∃ (k : Nat) (rest : List Span), n = rest.length ∧ (kept.drop k = rest) ∧ (k + aheadR fin rest = aheadR fin kept) ∧ (k ≤ kept.length) ∧ 4 ≤ s.nx ∧ s.tm 1 = ai n0 ∧ s.tm 3 = .ptr 0 0 0 1 ∧ s.tm 5 = .ptr 1 0 0 1 ∧ s.tm 6 = .ptr 2 0 0 1 ∧ s.tm 9 = lSpan kept ∧ s.tm 12 = ai k ∧ Pg.rowAt s.H (0) = some ({ k := 3, es := [eHouse h], ty := 26 }) ∧ Pg.rowAt s.H (1) = some ({ k := 2, es := [eSpan fin], ty := 38 }) ∧ Pg.rowAt s.H (2) = some ({ k := 3, es := [[.v (.slice none 0 0), .v (.slice none 0 0), .v (.slice none 0 0)]], ty := 26 })) (kept.length) ⟨0, kept, rfl, rfl, (Nat.zero_add _), Nat.zero_le _, ?_, ?_, ?_, ?_, ?_, ?_, ?_, ?_, ?_, ?_⟩ ?_
        iterate 10 (first | ((simp (disch := omega) only [push_cast, Int.reduceAdd, Nat.reduceEqDiff, Nat.reduceAdd, Nat.reduceSub, Nat.reduceMul, Nat.reduceLeDiff, Nat.reduceLT, ↓reduceIte, hS1_, hZ1_, hdn, hdl, hdg, hsh, hk1_]; done)) | (simp (disch := omega) only [push_cast, Int.reduceAdd, Nat.reduceEqDiff, Nat.reduceAdd, Nat.reduceSub, Nat.reduceMul, Nat.reduceLeDiff, Nat.reduceLT, ↓reduceIte, hS1_, hZ1_, hdn, hdl, hdg, hsh, hk1_] <;> first | rfl | omega) | omega)
        rintro n2 s2 ⟨k2, rest2, hn2, hp02, hp12, hp22, hnl2, hS2⟩
        have hZ2 : (0 : Nat) ≠ s2.nx ∧ s2.nx ≠ (0 : Nat) ∧ (1 : Nat) ≠ s2.nx ∧ s2.nx ≠ (1 : Nat) ∧ (2 : Nat) ≠ s2.nx ∧ s2.nx ≠ (2 : Nat) := by omega
        rcases rest2 with _ | ⟨y, rest2⟩
        · have hk2 := drop_nil hp02
          have ha0 : aheadR fin ([] : List Span) = 0 := rfl
          have hka : aheadR fin kept = k2 := by omega
          rw [hka] at hR
          have hlA : (kept.take k2).length = k2 := by rw [List.length_take]; omega
          have hlB : (kept.drop k2).length = kept.length - k2 := by rw [List.length_drop]
          have hmA : (kept.map eSpan).take k2 = (kept.take k2).map eSpan := by rw [List.map_take]
          have hmB : (kept.map eSpan).drop k2 = (kept.drop k2).map eSpan := by rw [List.map_drop]
          have hmC : ((kept.drop k2).map eSpan).take (kept.length - k2) = (kept.drop k2).map eSpan := by rw [List.take_of_length_le (by simp)]
          have hk2c : (k2 : Int) ≤ (kept.length : Int) := by omega
          have hk2d : k2 ≤ kept.length := by omega
          have hcm : 1 + (kept.length - k2) = kept.length - k2 + 1 := Nat.add_comm _ _
          have hse : (∀ e, e ∈ kept.map eSpan → e.length = 2) = True := eq_true (fun e he => by obtain ⟨x, _, rfl⟩ := List.mem_map.1 he; rfl)
          have hk2n : (kept.length : Int).toNat - k2 = kept.length - k2 := by omega
          have hlst : lst.length = kept.length + 1 := by rw [hR]; simp; omega
          generalize kept.take k2 = kA at *
          generalize kept.drop k2 = kB at *
          repeat' first
            | refine AW.seq ?_ | refine AW.region ?_ | refine AW.ret ?_ | refine AW.block ?_ | refine AW.skip ?_ | refine AW.exit ?_ | refine AW.scope ?_ | refine AW.label ?_ | refine AWL.nil ?_ | refine D.nil ?_
            | refine W.draw cx_mixed (by decide +kernel) ?_
            | ((first | (apply W.step cx_ok; decide) | (apply D.step cx_ok; decide; decide) | apply W.store cx_ok | (apply W.gS; rfl; decide) | (apply D.gS; rfl; decide; decide) | apply AW.cond); (simp (disch := (first | omega | (simp only [List.length_append, List.length_map, List.length_cons, List.length_nil]; omega))) only [push_cast, Int.reduceAdd, Nat.reduceEqDiff, Nat.reduceAdd, Nat.reduceSub, Nat.reduceMul, Nat.reduceLeDiff, Nat.reduceLT, ↓reduceIte, hS2, hZ2, hk2, hk2c, hk2d, hcm, List.all_append, hse, hk2n, hmA, hmB, hmC, hlA, hlB, List.take_of_length_le] <;> rfl); all_goals (try ((with_reducible intro hI); first | (cases hI; done) | (simp only [INTS] at hI; first | (exfalso; omega) | (have hT : True := hI; clear hT hI) | skip) | skip)))
            | ((first | (apply W.gU; rfl; decide) | (apply D.gU; rfl; decide; decide)); (simp (disch := (first | omega | (simp only [List.length_append, List.length_map, List.length_cons, List.length_nil]; omega))) only [push_cast, Int.reduceAdd, Nat.reduceEqDiff, Nat.reduceAdd, Nat.reduceSub, Nat.reduceMul, Nat.reduceLeDiff, Nat.reduceLT, ↓reduceIte, hS2, hZ2, hk2, hk2c, hk2d, hcm, List.all_append, hse, hk2n, hmA, hmB, hmC, hlA, hlB, List.take_of_length_le] <;> rfl))
            | (apply W.append cx_ok; decide; rfl; rfl; rfl; decide; (iterate 3 (simp (disch := (first | omega | (simp only [List.length_append, List.length_map, List.length_cons, List.length_nil]; omega))) only [push_cast, Int.reduceAdd, Nat.reduceEqDiff, Nat.reduceAdd, Nat.reduceSub, Nat.reduceMul, Nat.reduceLeDiff, Nat.reduceLT, ↓reduceIte, hS2, hZ2, hk2, hk2c, hk2d, hcm, List.all_append, hse, hk2n, hmA, hmB, hmC, hlA, hlB, List.take_of_length_le] <;> rfl)); simp; ((first | rfl | exact idsLL_map _ (fun _ => rfl) _)); ((try dsimp only); (try simp only [List.length_map, List.length_append, List.length_cons, List.length_nil]); omega); ((try dsimp only); (try simp only [List.length_map, List.length_append, List.length_cons, List.length_nil]); omega))
            | ((first | apply W.retC | apply W.endC' | apply W.retM | apply W.endM' | apply W.ret1 | apply W.end1 | apply W.ret2 | apply W.end2 | apply W.ret3 | apply W.end3 | apply W.ret0 | apply W.end0); (iterate 2 (try (simp (disch := (first | omega | (simp only [List.length_append, List.length_map, List.length_cons, List.length_nil]; omega))) only [push_cast, Int.reduceAdd, Nat.reduceEqDiff, Nat.reduceAdd, Nat.reduceSub, Nat.reduceMul, Nat.reduceLeDiff, Nat.reduceLT, ↓reduceIte, hS2, hZ2, hk2, hk2c, hk2d, hcm, List.all_append, hse, hk2n, hmA, hmB, hmC, hlA, hlB, List.take_of_length_le] <;> rfl))); (skip))
          all_goals try (show _ = _; rw [if_pos (by omega)]; rfl)
          have hle8 : ¬ 8 < lst.length := by omega
          rw [if_neg hle8]
          refine AW.freeze (t := 13) (v := lSpan lst) (by rw [hR]; simp (disch := (first | omega | (simp only [List.length_append, List.length_map, List.length_cons, List.length_nil]; omega))) only [push_cast, Int.reduceAdd, Nat.reduceEqDiff, Nat.reduceAdd, Nat.reduceSub, Nat.reduceMul, Nat.reduceLeDiff, Nat.reduceLT, ↓reduceIte, hS2, hZ2, hk2, hk2c, hk2d, hcm, List.all_append, hse, hk2n, hmA, hmB, hmC, hlA, hlB, List.take_of_length_le]) ?_
          refine AW.adoptCell (s2.nx + 2) 0 1 2 98 (r := { k := 3, es := [[.lst (h.rooms.map eRoom), .v (.slice none 0 0), .lst (h.ways.map eWay)]], ty := 26 }) (by simp (disch := (first | omega | (simp only [List.length_append, List.length_map, List.length_cons, List.length_nil]; omega))) only [push_cast, Int.reduceAdd, Nat.reduceEqDiff, Nat.reduceAdd, Nat.reduceSub, Nat.reduceMul, Nat.reduceLeDiff, Nat.reduceLT, ↓reduceIte, hS2, hZ2, hk2, hk2c, hk2d, hcm, List.all_append, hse, hk2n, hmA, hmB, hmC, hlA, hlB, List.take_of_length_le]) (by rfl) ?_
          refine AW.loop (fun n s => ∃ (k B D : Nat) (od : List Door), n = h.doors.length - k ∧ (od = (setDoor h n0.toNat lst).take k) ∧ (od.length = k) ∧ (k ≤ h.doors.length) ∧ (4 ≤ B ∧ B < s.nx ∧ 4 ≤ D ∧ D < s.nx ∧ B ≠ D) ∧ 4 ≤ s.nx ∧ s.tm 1 = ai n0 ∧ s.tm 3 = .ptr 0 0 0 1 ∧ s.tm 6 = .ptr 2 0 0 1 ∧ s.tm 13 = lSpan lst ∧ s.tm 14 = .ptr B 0 0 1 ∧ s.tm 15 = ai k ∧ Pg.rowAt s.H (0) = some ({ k := 3, es := [eHouse h], ty := 26 }) ∧ Pg.rowAt s.H (2) = some ({ k := 3, es := [[.v (.slice none 0 0), .v (.slice none 0 0), .v (.slice none 0 0)]], ty := 26 }) ∧ Pg.rowAt s.H (B) = some ({ k := 3, es := [[.lst (h.rooms.map eRoom), .ref D 0 k, .lst (h.ways.map eWay)]], ty := 26 }) ∧ Pg.rowAt s.H (D) = some ({ k := 2, es := od.map eDoor, ty := 98, lo := k })) (h.doors.length) ⟨0, (s2.nx + 2), (s2.nx + 3), [], rfl, rfl, rfl, Nat.zero_le _, (by simp (disch := (first | omega | (simp only [List.length_append, List.length_map, List.length_cons, List.length_nil]; omega))) only [push_cast, Int.reduceAdd, Nat.reduceEqDiff, Nat.reduceAdd, Nat.reduceSub, Nat.reduceMul, Nat.reduceLeDiff, Nat.reduceLT, ↓reduceIte, hS2, hZ2, hk2, hk2c, hk2d, hcm, List.all_append, hse, hk2n, hmA, hmB, hmC, hlA, hlB, List.take_of_length_le]; omega), ?_, ?_, ?_, ?_, ?_, ?_, ?_, ?_, ?_, ?_, ?_⟩ ?_
          iterate 11 (first | ((simp (disch := (first | omega | (simp only [List.length_append, List.length_map, List.length_cons, List.length_nil]; omega))) only [push_cast, Int.reduceAdd, Nat.reduceEqDiff, Nat.reduceAdd, Nat.reduceSub, Nat.reduceMul, Nat.reduceLeDiff, Nat.reduceLT, ↓reduceIte, hS2, hZ2, hk2, hk2c, hk2d, hcm, List.all_append, hse, hk2n, hmA, hmB, hmC, hlA, hlB, List.take_of_length_le]; done)) | (simp (disch := (first | omega | (simp only [List.length_append, List.length_map, List.length_cons, List.length_nil]; omega))) only [push_cast, Int.reduceAdd, Nat.reduceEqDiff, Nat.reduceAdd, Nat.reduceSub, Nat.reduceMul, Nat.reduceLeDiff, Nat.reduceLT, ↓reduceIte, hS2, hZ2, hk2, hk2c, hk2d, hcm, List.all_append, hse, hk2n, hmA, hmB, hmC, hlA, hlB, List.take_of_length_le] <;> first | rfl | omega) | omega)
          rintro n3 s3 ⟨k3, B3, D3, od3, hn3, hp03, hp13, hp23, hp33, hnl3, hS3⟩
          have hZ3 : (0 : Nat) ≠ s3.nx ∧ s3.nx ≠ (0 : Nat) ∧ (2 : Nat) ≠ s3.nx ∧ s3.nx ≠ (2 : Nat) ∧ (B3 : Nat) ≠ s3.nx ∧ s3.nx ≠ (B3 : Nat) ∧ (D3 : Nat) ≠ s3.nx ∧ s3.nx ≠ (D3 : Nat) := by omega
          obtain ⟨q1, q2, q3, q4, q5⟩ := hp33
          have hAr : (∀ m, ¬ ((B3 : Nat) = s3.nx + m)) ∧ (∀ m, ¬ (s3.nx + m = (B3 : Nat))) ∧ ¬ ((B3 : Nat) = s3.nx) ∧ ¬ (s3.nx = (B3 : Nat)) ∧ (∀ m, ¬ ((D3 : Nat) = s3.nx + m)) ∧ (∀ m, ¬ (s3.nx + m = (D3 : Nat))) ∧ ¬ ((D3 : Nat) = s3.nx) ∧ ¬ (s3.nx = (D3 : Nat)) ∧ (∀ m, ¬ ((0 : Nat) = s3.nx + m)) ∧ (∀ m, ¬ (s3.nx + m = (0 : Nat))) ∧ ¬ ((0 : Nat) = s3.nx) ∧ ¬ (s3.nx = (0 : Nat)) ∧ (∀ m, ¬ ((2 : Nat) = s3.nx + m)) ∧ (∀ m, ¬ (s3.nx + m = (2 : Nat))) ∧ ¬ ((2 : Nat) = s3.nx) ∧ ¬ (s3.nx = (2 : Nat)) := by refine ⟨?_, ?_, ?_, ?_, ?_, ?_, ?_, ?_, ?_, ?_, ?_, ?_, ?_, ?_, ?_, ?_⟩ <;> intros <;> omega
          have hP : (0 : Nat) ≠ B3 ∧ (0 : Nat) ≠ D3 ∧ (2 : Nat) ≠ B3 ∧ (2 : Nat) ≠ D3 ∧ (B3 : Nat) ≠ 0 ∧ (B3 : Nat) ≠ 2 ∧ (B3 : Nat) ≠ D3 ∧ (D3 : Nat) ≠ 0 ∧ (D3 : Nat) ≠ 2 ∧ (D3 : Nat) ≠ B3 := by omega
          have hsl : (setDoor h n0.toNat lst).length = h.doors.length := by unfold setDoor; rw [List.length_set]
          by_cases hk3 : k3 < h.doors.length
          · have hk3a : (k3 : Int) < (h.doors.length : Int) := by omega
            obtain ⟨x, hx⟩ : ∃ x, h.doors[k3]? = some x := ⟨_, List.getElem?_eq_getElem hk3⟩
            have hgx : (h.doors.map eDoor).getD k3 [] = eDoor x := by rw [List.getD_eq_getElem?_getD, List.getElem?_map, hx]; rfl
            by_cases hkn : (k3 : Int) = n0
            · have hdd : od3 ++ [⟨x.hours, lst⟩] = (setDoor h n0.toNat lst).take (k3 + 1) := by
                rw [List.take_add_one, hp03]
                congr 1
                unfold setDoor
                have hnk : n0.toNat = k3 := by omega
                have hdx : h.door (k3 : Int) = x := by unfold House.door; rw [Int.toNat_natCast, List.getD_eq_getElem?_getD, hx]; rfl
                rw [hnk, hdx]; simp [hk3]
              have hkq : ((k3 : Int) = n0) = True := eq_true hkn
              repeat' first
                | refine AW.seq ?_ | refine AW.region ?_ | refine AW.ret ?_ | refine AW.block ?_ | refine AW.skip ?_ | refine AW.exit ?_ | refine AW.scope ?_ | refine AW.label ?_ | refine AWL.nil ?_ | refine D.nil ?_
                | refine W.draw cx_mixed (by decide +kernel) ?_
                | ((first | (apply W.step cx_ok; decide) | (apply D.step cx_ok; decide; decide) | apply W.store cx_ok | (apply W.gS; rfl; decide) | (apply D.gS; rfl; decide; decide) | apply AW.cond); (simp (disch := omega) only [push_cast, Int.reduceAdd, Nat.reduceEqDiff, Nat.reduceAdd, Nat.reduceSub, Nat.reduceMul, Nat.reduceLeDiff, Nat.reduceLT, ↓reduceIte, hS3, hZ3, hp13, hAr, hP, hk3a, hgx, hkq] <;> rfl); all_goals (try ((with_reducible intro hI); first | (cases hI; done) | (simp only [INTS] at hI; first | (exfalso; omega) | (have hT : True := hI; clear hT hI) | skip) | skip)))
                | ((first | (apply W.gU; rfl; decide) | (apply D.gU; rfl; decide; decide)); (simp (disch := omega) only [push_cast, Int.reduceAdd, Nat.reduceEqDiff, Nat.reduceAdd, Nat.reduceSub, Nat.reduceMul, Nat.reduceLeDiff, Nat.reduceLT, ↓reduceIte, hS3, hZ3, hp13, hAr, hP, hk3a, hgx, hkq] <;> rfl))
                | (apply W.append cx_ok; decide; rfl; rfl; rfl; decide; (iterate 3 (simp (disch := omega) only [push_cast, Int.reduceAdd, Nat.reduceEqDiff, Nat.reduceAdd, Nat.reduceSub, Nat.reduceMul, Nat.reduceLeDiff, Nat.reduceLT, ↓reduceIte, hS3, hZ3, hp13, hAr, hP, hk3a, hgx, hkq] <;> rfl)); simp; (rfl); ((try dsimp only); (try simp only [List.length_map, List.length_append, List.length_cons, List.length_nil]); omega); ((try dsimp only); (try simp only [List.length_map, List.length_append, List.length_cons, List.length_nil]); omega))
                | ((first | apply W.retC | apply W.endC' | apply W.retM | apply W.endM' | apply W.ret1 | apply W.end1 | apply W.ret2 | apply W.end2 | apply W.ret3 | apply W.end3 | apply W.ret0 | apply W.end0); (iterate 2 (try (simp (disch := omega) only [push_cast, Int.reduceAdd, Nat.reduceEqDiff, Nat.reduceAdd, Nat.reduceSub, Nat.reduceMul, Nat.reduceLeDiff, Nat.reduceLT, ↓reduceIte, hS3, hZ3, hp13, hAr, hP, hk3a, hgx, hkq] <;> rfl))); (skip))
              all_goals
                (refine ⟨(h.doors.length - (k3 + 1)), ?_, k3 + 1, B3, D3, od3 ++ [⟨x.hours, lst⟩], rfl, hdd, (by simp [hp13]), (by omega), (by simp (disch := omega) only [push_cast, Int.reduceAdd, Nat.reduceEqDiff, Nat.reduceAdd, Nat.reduceSub, Nat.reduceMul, Nat.reduceLeDiff, Nat.reduceLT, ↓reduceIte, hS3, hZ3, hp13, hAr, hP]; omega), ?_, ?_, ?_, ?_, ?_, ?_, ?_, ?_, ?_, ?_, ?_⟩; (omega); all_goals (first | (simp (disch := omega) only [push_cast, Int.reduceAdd, Nat.reduceEqDiff, Nat.reduceAdd, Nat.reduceSub, Nat.reduceMul, Nat.reduceLeDiff, Nat.reduceLT, ↓reduceIte, hS3, hZ3, hp13, hk3a, hgx, hkq, hAr, hP]; done) | (simp (disch := omega) only [push_cast, Int.reduceAdd, Nat.reduceEqDiff, Nat.reduceAdd, Nat.reduceSub, Nat.reduceMul, Nat.reduceLeDiff, Nat.reduceLT, ↓reduceIte, hS3, hZ3, hp13, hk3a, hgx, hkq, hAr, hP] <;> first | rfl | omega) | omega))
            · have hdd : od3 ++ [x] = (setDoor h n0.toNat lst).take (k3 + 1) := by
                rw [List.take_add_one, hp03]
                congr 1
                unfold setDoor
                rw [List.getElem?_set, if_neg (by omega), hx]; rfl
              repeat' first
                | refine AW.seq ?_ | refine AW.region ?_ | refine AW.ret ?_ | refine AW.block ?_ | refine AW.skip ?_ | refine AW.exit ?_ | refine AW.scope ?_ | refine AW.label ?_ | refine AWL.nil ?_ | refine D.nil ?_
                | refine W.draw cx_mixed (by decide +kernel) ?_
                | ((first | (apply W.step cx_ok; decide) | (apply D.step cx_ok; decide; decide) | apply W.store cx_ok | (apply W.gS; rfl; decide) | (apply D.gS; rfl; decide; decide) | apply AW.cond); (simp (disch := omega) only [push_cast, Int.reduceAdd, Nat.reduceEqDiff, Nat.reduceAdd, Nat.reduceSub, Nat.reduceMul, Nat.reduceLeDiff, Nat.reduceLT, ↓reduceIte, hS3, hZ3, hp13, hAr, hP, hk3a, hgx, hkn] <;> rfl); all_goals (try ((with_reducible intro hI); first | (cases hI; done) | (simp only [INTS] at hI; first | (exfalso; omega) | (have hT : True := hI; clear hT hI) | skip) | skip)))
                | ((first | (apply W.gU; rfl; decide) | (apply D.gU; rfl; decide; decide)); (simp (disch := omega) only [push_cast, Int.reduceAdd, Nat.reduceEqDiff, Nat.reduceAdd, Nat.reduceSub, Nat.reduceMul, Nat.reduceLeDiff, Nat.reduceLT, ↓reduceIte, hS3, hZ3, hp13, hAr, hP, hk3a, hgx, hkn] <;> rfl))
                | (apply W.append cx_ok; decide; rfl; rfl; rfl; decide; (iterate 3 (simp (disch := omega) only [push_cast, Int.reduceAdd, Nat.reduceEqDiff, Nat.reduceAdd, Nat.reduceSub, Nat.reduceMul, Nat.reduceLeDiff, Nat.reduceLT, ↓reduceIte, hS3, hZ3, hp13, hAr, hP, hk3a, hgx, hkn] <;> rfl)); simp; (rfl); ((try dsimp only); (try simp only [List.length_map, List.length_append, List.length_cons, List.length_nil]); omega); ((try dsimp only); (try simp only [List.length_map, List.length_append, List.length_cons, List.length_nil]); omega))
                | ((first | apply W.retC | apply W.endC' | apply W.retM | apply W.endM' | apply W.ret1 | apply W.end1 | apply W.ret2 | apply W.end2 | apply W.ret3 | apply W.end3 | apply W.ret0 | apply W.end0); (iterate 2 (try (simp (disch := omega) only [push_cast, Int.reduceAdd, Nat.reduceEqDiff, Nat.reduceAdd, Nat.reduceSub, Nat.reduceMul, Nat.reduceLeDiff, Nat.reduceLT, ↓reduceIte, hS3, hZ3, hp13, hAr, hP, hk3a, hgx, hkn] <;> rfl))); (skip))
              all_goals
                (refine ⟨(h.doors.length - (k3 + 1)), ?_, k3 + 1, B3, D3, od3 ++ [x], rfl, hdd, (by simp [hp13]), (by omega), (by simp (disch := omega) only [push_cast, Int.reduceAdd, Nat.reduceEqDiff, Nat.reduceAdd, Nat.reduceSub, Nat.reduceMul, Nat.reduceLeDiff, Nat.reduceLT, ↓reduceIte, hS3, hZ3, hp13, hAr, hP]; omega), ?_, ?_, ?_, ?_, ?_, ?_, ?_, ?_, ?_, ?_, ?_⟩; (omega); all_goals (first | (simp (disch := omega) only [push_cast, Int.reduceAdd, Nat.reduceEqDiff, Nat.reduceAdd, Nat.reduceSub, Nat.reduceMul, Nat.reduceLeDiff, Nat.reduceLT, ↓reduceIte, hS3, hZ3, hp13, hk3a, hgx, hkn, hAr, hP]; done) | (simp (disch := omega) only [push_cast, Int.reduceAdd, Nat.reduceEqDiff, Nat.reduceAdd, Nat.reduceSub, Nat.reduceMul, Nat.reduceLeDiff, Nat.reduceLT, ↓reduceIte, hS3, hZ3, hp13, hk3a, hgx, hkn, hAr, hP] <;> first | rfl | omega) | omega))
          · have hk3a : ¬ (k3 : Int) < (h.doors.length : Int) := by omega
            have hko : od3 = setDoor h n0.toNat lst := by rw [hp03, List.take_of_length_le (by omega)]
            repeat' first
              | refine AW.seq ?_ | refine AW.region ?_ | refine AW.ret ?_ | refine AW.block ?_ | refine AW.skip ?_ | refine AW.exit ?_ | refine AW.scope ?_ | refine AW.label ?_ | refine AWL.nil ?_ | refine D.nil ?_
              | refine W.draw cx_mixed (by decide +kernel) ?_
              | ((first | (apply W.step cx_ok; decide) | (apply D.step cx_ok; decide; decide) | apply W.store cx_ok | (apply W.gS; rfl; decide) | (apply D.gS; rfl; decide; decide) | apply AW.cond); (simp (disch := omega) only [push_cast, Int.reduceAdd, Nat.reduceEqDiff, Nat.reduceAdd, Nat.reduceSub, Nat.reduceMul, Nat.reduceLeDiff, Nat.reduceLT, ↓reduceIte, hS3, hZ3, hp13, hAr, hP, hk3a] <;> rfl); all_goals (try ((with_reducible intro hI); first | (cases hI; done) | (simp only [INTS] at hI; first | (exfalso; omega) | (have hT : True := hI; clear hT hI) | skip) | skip)))
              | ((first | (apply W.gU; rfl; decide) | (apply D.gU; rfl; decide; decide)); (simp (disch := omega) only [push_cast, Int.reduceAdd, Nat.reduceEqDiff, Nat.reduceAdd, Nat.reduceSub, Nat.reduceMul, Nat.reduceLeDiff, Nat.reduceLT, ↓reduceIte, hS3, hZ3, hp13, hAr, hP, hk3a] <;> rfl))
              | ((first | apply W.retC | apply W.endC' | apply W.retM | apply W.endM' | apply W.ret1 | apply W.end1 | apply W.ret2 | apply W.end2 | apply W.ret3 | apply W.end3 | apply W.ret0 | apply W.end0); (iterate 2 (try (simp (disch := omega) only [push_cast, Int.reduceAdd, Nat.reduceEqDiff, Nat.reduceAdd, Nat.reduceSub, Nat.reduceMul, Nat.reduceLeDiff, Nat.reduceLT, ↓reduceIte, hS3, hZ3, hp13, hAr, hP, hk3a] <;> rfl))); (skip))
            all_goals (show _ = _; rw [hko])
        · obtain ⟨hk2, hg2, hd'2, hl'2, hm2, hx2⟩ := drop_cons hp02 eSpan []
          by_cases hy : y.lo < fin.lo
          · have ha1 : aheadR fin (y :: rest2) = aheadR fin rest2 + 1 := by rw [aheadR, if_pos hy]
            repeat' first
              | refine AW.seq ?_ | refine AW.region ?_ | refine AW.ret ?_ | refine AW.block ?_ | refine AW.skip ?_ | refine AW.exit ?_ | refine AW.scope ?_ | refine AW.label ?_ | refine AWL.nil ?_ | refine D.nil ?_
              | refine W.draw cx_mixed (by decide +kernel) ?_
              | ((first | (apply W.step cx_ok; decide) | (apply D.step cx_ok; decide; decide) | apply W.store cx_ok | (apply W.gS; rfl; decide) | (apply D.gS; rfl; decide; decide) | apply AW.cond); (simp (disch := omega) only [push_cast, Int.reduceAdd, Nat.reduceEqDiff, Nat.reduceAdd, Nat.reduceSub, Nat.reduceMul, Nat.reduceLeDiff, Nat.reduceLT, ↓reduceIte, hS2, hZ2, hk2, hg2, hy] <;> rfl); all_goals (try ((with_reducible intro hI); first | (cases hI; done) | (simp only [INTS] at hI; first | (exfalso; omega) | (have hT : True := hI; clear hT hI) | skip) | skip)))
              | ((first | (apply W.gU; rfl; decide) | (apply D.gU; rfl; decide; decide)); (simp (disch := omega) only [push_cast, Int.reduceAdd, Nat.reduceEqDiff, Nat.reduceAdd, Nat.reduceSub, Nat.reduceMul, Nat.reduceLeDiff, Nat.reduceLT, ↓reduceIte, hS2, hZ2, hk2, hg2, hy] <;> rfl))
              | ((first | apply W.retC | apply W.endC' | apply W.retM | apply W.endM' | apply W.ret1 | apply W.end1 | apply W.ret2 | apply W.end2 | apply W.ret3 | apply W.end3 | apply W.ret0 | apply W.end0); (iterate 2 (try (simp (disch := omega) only [push_cast, Int.reduceAdd, Nat.reduceEqDiff, Nat.reduceAdd, Nat.reduceSub, Nat.reduceMul, Nat.reduceLeDiff, Nat.reduceLT, ↓reduceIte, hS2, hZ2, hk2, hg2, hy] <;> rfl))); (skip))
            all_goals
              (refine ⟨rest2.length, ?_, k2 + 1, rest2, rfl, hd'2, (by omega), (by omega), ?_, ?_, ?_, ?_, ?_, ?_, ?_, ?_, ?_, ?_⟩; ((simp only [List.length_cons] at *; omega)); all_goals (first | (simp (disch := omega) only [push_cast, Int.reduceAdd, Nat.reduceEqDiff, Nat.reduceAdd, Nat.reduceSub, Nat.reduceMul, Nat.reduceLeDiff, Nat.reduceLT, ↓reduceIte, hS2, hZ2, hg2, hk2, hy]; done) | (simp (disch := omega) only [push_cast, Int.reduceAdd, Nat.reduceEqDiff, Nat.reduceAdd, Nat.reduceSub, Nat.reduceMul, Nat.reduceLeDiff, Nat.reduceLT, ↓reduceIte, hS2, hZ2, hg2, hk2, hy] <;> first | rfl | omega) | omega))
          · have ha0 : aheadR fin (y :: rest2) = 0 := by rw [aheadR, if_neg hy]
            have hka : aheadR fin kept = k2 := by omega
            rw [hka] at hR
            have hlA : (kept.take k2).length = k2 := by rw [List.length_take]; omega
            have hlB : (kept.drop k2).length = kept.length - k2 := by rw [List.length_drop]
            have hmA : (kept.map eSpan).take k2 = (kept.take k2).map eSpan := by rw [List.map_take]
            have hmB : (kept.map eSpan).drop k2 = (kept.drop k2).map eSpan := by rw [List.map_drop]
            have hmC : ((kept.drop k2).map eSpan).take (kept.length - k2) = (kept.drop k2).map eSpan := by rw [List.take_of_length_le (by simp)]
            have hk2c : (k2 : Int) ≤ (kept.length : Int) := by omega
            have hk2d : k2 ≤ kept.length := by omega
            have hcm : 1 + (kept.length - k2) = kept.length - k2 + 1 := Nat.add_comm _ _
            have hse : (∀ e, e ∈ kept.map eSpan → e.length = 2) = True := eq_true (fun e he => by obtain ⟨x, _, rfl⟩ := List.mem_map.1 he; rfl)
            have hk2n : (kept.length : Int).toNat - k2 = kept.length - k2 := by omega
            have hlst : lst.length = kept.length + 1 := by rw [hR]; simp; omega
            generalize kept.take k2 = kA at *
            generalize kept.drop k2 = kB at *
            repeat' first
              | refine AW.seq ?_ | refine AW.region ?_ | refine AW.ret ?_ | refine AW.block ?_ | refine AW.skip ?_ | refine AW.exit ?_ | refine AW.scope ?_ | refine AW.label ?_ | refine AWL.nil ?_ | refine D.nil ?_
              | refine W.draw cx_mixed (by decide +kernel) ?_
              | ((first | (apply W.step cx_ok; decide) | (apply D.step cx_ok; decide; decide) | apply W.store cx_ok | (apply W.gS; rfl; decide) | (apply D.gS; rfl; decide; decide) | apply AW.cond); (simp (disch := (first | omega | (simp only [List.length_append, List.length_map, List.length_cons, List.length_nil]; omega))) only [push_cast, Int.reduceAdd, Nat.reduceEqDiff, Nat.reduceAdd, Nat.reduceSub, Nat.reduceMul, Nat.reduceLeDiff, Nat.reduceLT, ↓reduceIte, hS2, hZ2, hk2, hg2, hy, hk2c, hk2d, hcm, List.all_append, hse, hk2n, hmA, hmB, hmC, hlA, hlB, List.take_of_length_le] <;> rfl); all_goals (try ((with_reducible intro hI); first | (cases hI; done) | (simp only [INTS] at hI; first | (exfalso; omega) | (have hT : True := hI; clear hT hI) | skip) | skip)))
              | ((first | (apply W.gU; rfl; decide) | (apply D.gU; rfl; decide; decide)); (simp (disch := (first | omega | (simp only [List.length_append, List.length_map, List.length_cons, List.length_nil]; omega))) only [push_cast, Int.reduceAdd, Nat.reduceEqDiff, Nat.reduceAdd, Nat.reduceSub, Nat.reduceMul, Nat.reduceLeDiff, Nat.reduceLT, ↓reduceIte, hS2, hZ2, hk2, hg2, hy, hk2c, hk2d, hcm, List.all_append, hse, hk2n, hmA, hmB, hmC, hlA, hlB, List.take_of_length_le] <;> rfl))
              | (apply W.append cx_ok; decide; rfl; rfl; rfl; decide; (iterate 3 (simp (disch := (first | omega | (simp only [List.length_append, List.length_map, List.length_cons, List.length_nil]; omega))) only [push_cast, Int.reduceAdd, Nat.reduceEqDiff, Nat.reduceAdd, Nat.reduceSub, Nat.reduceMul, Nat.reduceLeDiff, Nat.reduceLT, ↓reduceIte, hS2, hZ2, hk2, hg2, hy, hk2c, hk2d, hcm, List.all_append, hse, hk2n, hmA, hmB, hmC, hlA, hlB, List.take_of_length_le] <;> rfl)); simp; ((first | rfl | exact idsLL_map _ (fun _ => rfl) _)); ((try dsimp only); (try simp only [List.length_map, List.length_append, List.length_cons, List.length_nil]); omega); ((try dsimp only); (try simp only [List.length_map, List.length_append, List.length_cons, List.length_nil]); omega))
              | ((first | apply W.retC | apply W.endC' | apply W.retM | apply W.endM' | apply W.ret1 | apply W.end1 | apply W.ret2 | apply W.end2 | apply W.ret3 | apply W.end3 | apply W.ret0 | apply W.end0); (iterate 2 (try (simp (disch := (first | omega | (simp only [List.length_append, List.length_map, List.length_cons, List.length_nil]; omega))) only [push_cast, Int.reduceAdd, Nat.reduceEqDiff, Nat.reduceAdd, Nat.reduceSub, Nat.reduceMul, Nat.reduceLeDiff, Nat.reduceLT, ↓reduceIte, hS2, hZ2, hk2, hg2, hy, hk2c, hk2d, hcm, List.all_append, hse, hk2n, hmA, hmB, hmC, hlA, hlB, List.take_of_length_le] <;> rfl))); (skip))
            all_goals try (show _ = _; rw [if_pos (by omega)]; rfl)
            have hle8 : ¬ 8 < lst.length := by omega
            rw [if_neg hle8]
            refine AW.freeze (t := 13) (v := lSpan lst) (by rw [hR]; simp (disch := (first | omega | (simp only [List.length_append, List.length_map, List.length_cons, List.length_nil]; omega))) only [push_cast, Int.reduceAdd, Nat.reduceEqDiff, Nat.reduceAdd, Nat.reduceSub, Nat.reduceMul, Nat.reduceLeDiff, Nat.reduceLT, ↓reduceIte, hS2, hZ2, hk2, hg2, hy, hk2c, hk2d, hcm, List.all_append, hse, hk2n, hmA, hmB, hmC, hlA, hlB, List.take_of_length_le]) ?_
            refine AW.adoptCell (s2.nx + 2) 0 1 2 98 (r := { k := 3, es := [[.lst (h.rooms.map eRoom), .v (.slice none 0 0), .lst (h.ways.map eWay)]], ty := 26 }) (by simp (disch := (first | omega | (simp only [List.length_append, List.length_map, List.length_cons, List.length_nil]; omega))) only [push_cast, Int.reduceAdd, Nat.reduceEqDiff, Nat.reduceAdd, Nat.reduceSub, Nat.reduceMul, Nat.reduceLeDiff, Nat.reduceLT, ↓reduceIte, hS2, hZ2, hk2, hg2, hy, hk2c, hk2d, hcm, List.all_append, hse, hk2n, hmA, hmB, hmC, hlA, hlB, List.take_of_length_le]) (by rfl) ?_
            refine AW.loop (fun n s => ∃ (k B D : Nat) (od : List Door), n = h.doors.length - k ∧ (od = (setDoor h n0.toNat lst).take k) ∧ (od.length = k) ∧ (k ≤ h.doors.length) ∧ (4 ≤ B ∧ B < s.nx ∧ 4 ≤ D ∧ D < s.nx ∧ B ≠ D) ∧ 4 ≤ s.nx ∧ s.tm 1 = ai n0 ∧ s.tm 3 = .ptr 0 0 0 1 ∧ s.tm 6 = .ptr 2 0 0 1 ∧ s.tm 13 = lSpan lst ∧ s.tm 14 = .ptr B 0 0 1 ∧ s.tm 15 = ai k ∧ Pg.rowAt s.H (0) = some ({ k := 3, es := [eHouse h], ty := 26 }) ∧ Pg.rowAt s.H (2) = some ({ k := 3, es := [[.v (.slice none 0 0), .v (.slice none 0 0), .v (.slice none 0 0)]], ty := 26 }) ∧ Pg.rowAt s.H (B) = some ({ k := 3, es := [[.lst (h.rooms.map eRoom), .ref D 0 k, .lst (h.ways.map eWay)]], ty := 26 }) ∧ Pg.rowAt s.H (D) = some ({ k := 2, es := od.map eDoor, ty := 98, lo := k })) (h.doors.length) ⟨0, (s2.nx + 2), (s2.nx + 3), [], rfl, rfl, rfl, Nat.zero_le _, (by simp (disch := (first | omega | (simp only [List.length_append, List.length_map, List.length_cons, List.length_nil]; omega))) only [push_cast, Int.reduceAdd, Nat.reduceEqDiff, Nat.reduceAdd, Nat.reduceSub, Nat.reduceMul, Nat.reduceLeDiff, Nat.reduceLT, ↓reduceIte, hS2, hZ2, hk2, hg2, hy, hk2c, hk2d, hcm, List.all_append, hse, hk2n, hmA, hmB, hmC, hlA, hlB, List.take_of_length_le]; omega), ?_, ?_, ?_, ?_, ?_, ?_, ?_, ?_, ?_, ?_, ?_⟩ ?_
            iterate 11 (first | ((simp (disch := (first | omega | (simp only [List.length_append, List.length_map, List.length_cons, List.length_nil]; omega))) only [push_cast, Int.reduceAdd, Nat.reduceEqDiff, Nat.reduceAdd, Nat.reduceSub, Nat.reduceMul, Nat.reduceLeDiff, Nat.reduceLT, ↓reduceIte, hS2, hZ2, hk2, hg2, hy, hk2c, hk2d, hcm, List.all_append, hse, hk2n, hmA, hmB, hmC, hlA, hlB, List.take_of_length_le]; done)) | (simp (disch := (first | omega | (simp only [List.length_append, List.length_map, List.length_cons, List.length_nil]; omega))) only [push_cast, Int.reduceAdd, Nat.reduceEqDiff, Nat.reduceAdd, Nat.reduceSub, Nat.reduceMul, Nat.reduceLeDiff, Nat.reduceLT, ↓reduceIte, hS2, hZ2, hk2, hg2, hy, hk2c, hk2d, hcm, List.all_append, hse, hk2n, hmA, hmB, hmC, hlA, hlB, List.take_of_length_le] <;> first | rfl | omega) | omega)
            rintro n3 s3 ⟨k3, B3, D3, od3, hn3, hp03, hp13, hp23, hp33, hnl3, hS3⟩
            have hZ3 : (0 : Nat) ≠ s3.nx ∧ s3.nx ≠ (0 : Nat) ∧ (2 : Nat) ≠ s3.nx ∧ s3.nx ≠ (2 : Nat) ∧ (B3 : Nat) ≠ s3.nx ∧ s3.nx ≠ (B3 : Nat) ∧ (D3 : Nat) ≠ s3.nx ∧ s3.nx ≠ (D3 : Nat) := by omega
            obtain ⟨q1, q2, q3, q4, q5⟩ := hp33
            have hAr : (∀ m, ¬ ((B3 : Nat) = s3.nx + m)) ∧ (∀ m, ¬ (s3.nx + m = (B3 : Nat))) ∧ ¬ ((B3 : Nat) = s3.nx) ∧ ¬ (s3.nx = (B3 : Nat)) ∧ (∀ m, ¬ ((D3 : Nat) = s3.nx + m)) ∧ (∀ m, ¬ (s3.nx + m = (D3 : Nat))) ∧ ¬ ((D3 : Nat) = s3.nx) ∧ ¬ (s3.nx = (D3 : Nat)) ∧ (∀ m, ¬ ((0 : Nat) = s3.nx + m)) ∧ (∀ m, ¬ (s3.nx + m = (0 : Nat))) ∧ ¬ ((0 : Nat) = s3.nx) ∧ ¬ (s3.nx = (0 : Nat)) ∧ (∀ m, ¬ ((2 : Nat) = s3.nx + m)) ∧ (∀ m, ¬ (s3.nx + m = (2 : Nat))) ∧ ¬ ((2 : Nat) = s3.nx) ∧ ¬ (s3.nx = (2 : Nat)) := by refine ⟨?_, ?_, ?_, ?_, ?_, ?_, ?_, ?_, ?_, ?_, ?_, ?_, ?_, ?_, ?_, ?_⟩ <;> intros <;> omega
            have hP : (0 : Nat) ≠ B3 ∧ (0 : Nat) ≠ D3 ∧ (2 : Nat) ≠ B3 ∧ (2 : Nat) ≠ D3 ∧ (B3 : Nat) ≠ 0 ∧ (B3 : Nat) ≠ 2 ∧ (B3 : Nat) ≠ D3 ∧ (D3 : Nat) ≠ 0 ∧ (D3 : Nat) ≠ 2 ∧ (D3 : Nat) ≠ B3 := by omega
            have hsl : (setDoor h n0.toNat lst).length = h.doors.length := by unfold setDoor; rw [List.length_set]
            by_cases hk3 : k3 < h.doors.length
            · have hk3a : (k3 : Int) < (h.doors.length : Int) := by omega
              obtain ⟨x, hx⟩ : ∃ x, h.doors[k3]? = some x := ⟨_, List.getElem?_eq_getElem hk3⟩
              have hgx : (h.doors.map eDoor).getD k3 [] = eDoor x := by rw [List.getD_eq_getElem?_getD, List.getElem?_map, hx]; rfl
              by_cases hkn : (k3 : Int) = n0
              · have hdd : od3 ++ [⟨x.hours, lst⟩] = (setDoor h n0.toNat lst).take (k3 + 1) := by
                  rw [List.take_add_one, hp03]
                  congr 1
                  unfold setDoor
                  have hnk : n0.toNat = k3 := by omega
                  have hdx : h.door (k3 : Int) = x := by unfold House.door; rw [Int.toNat_natCast, List.getD_eq_getElem?_getD, hx]; rfl
                  rw [hnk, hdx]; simp [hk3]
                have hkq : ((k3 : Int) = n0) = True := eq_true hkn
                repeat' first
                  | refine AW.seq ?_ | refine AW.region ?_ | refine AW.ret ?_ | refine AW.block ?_ | refine AW.skip ?_ | refine AW.exit ?_ | refine AW.scope ?_ | refine AW.label ?_ | refine AWL.nil ?_ | refine D.nil ?_
                  | refine W.draw cx_mixed (by decide +kernel) ?_
                  | ((first | (apply W.step cx_ok; decide) | (apply D.step cx_ok; decide; decide) | apply W.store cx_ok | (apply W.gS; rfl; decide) | (apply D.gS; rfl; decide; decide) | apply AW.cond); (simp (disch := omega) only [push_cast, Int.reduceAdd, Nat.reduceEqDiff, Nat.reduceAdd, Nat.reduceSub, Nat.reduceMul, Nat.reduceLeDiff, Nat.reduceLT, ↓reduceIte, hS3, hZ3, hp13, hAr, hP, hk3a, hgx, hkq] <;> rfl); all_goals (try ((with_reducible intro hI); first | (cases hI; done) | (simp only [INTS] at hI; first | (exfalso; omega) | (have hT : True := hI; clear hT hI) | skip) | skip)))
                  | ((first | (apply W.gU; rfl; decide) | (apply D.gU; rfl; decide; decide)); (simp (disch := omega) only [push_cast, Int.reduceAdd, Nat.reduceEqDiff, Nat.reduceAdd, Nat.reduceSub, Nat.reduceMul, Nat.reduceLeDiff, Nat.reduceLT, ↓reduceIte, hS3, hZ3, hp13, hAr, hP, hk3a, hgx, hkq] <;> rfl))
                  | (apply W.append cx_ok; decide; rfl; rfl; rfl; decide; (iterate 3 (simp (disch := omega) only [push_cast, Int.reduceAdd, Nat.reduceEqDiff, Nat.reduceAdd, Nat.reduceSub, Nat.reduceMul, Nat.reduceLeDiff, Nat.reduceLT, ↓reduceIte, hS3, hZ3, hp13, hAr, hP, hk3a, hgx, hkq] <;> rfl)); simp; (rfl); ((try dsimp only); (try simp only [List.length_map, List.length_append, List.length_cons, List.length_nil]); omega); ((try dsimp only); (try simp only [List.length_map, List.length_append, List.length_cons, List.length_nil]); omega))
                  | ((first | apply W.retC | apply W.endC' | apply W.retM | apply W.endM' | apply W.ret1 | apply W.end1 | apply W.ret2 | apply W.end2 | apply W.ret3 | apply W.end3 | apply W.ret0 | apply W.end0); (iterate 2 (try (simp (disch := omega) only [push_cast, Int.reduceAdd, Nat.reduceEqDiff, Nat.reduceAdd, Nat.reduceSub, Nat.reduceMul, Nat.reduceLeDiff, Nat.reduceLT, ↓reduceIte, hS3, hZ3, hp13, hAr, hP, hk3a, hgx, hkq] <;> rfl))); (skip))
                all_goals
                  (refine ⟨(h.doors.length - (k3 + 1)), ?_, k3 + 1, B3, D3, od3 ++ [⟨x.hours, lst⟩], rfl, hdd, (by simp [hp13]), (by omega), (by simp (disch := omega) only [push_cast, Int.reduceAdd, Nat.reduceEqDiff, Nat.reduceAdd, Nat.reduceSub, Nat.reduceMul, Nat.reduceLeDiff, Nat.reduceLT, ↓reduceIte, hS3, hZ3, hp13, hAr, hP]; omega), ?_, ?_, ?_, ?_, ?_, ?_, ?_, ?_, ?_, ?_, ?_⟩; (omega); all_goals (first | (simp (disch := omega) only [push_cast, Int.reduceAdd, Nat.reduceEqDiff, Nat.reduceAdd, Nat.reduceSub, Nat.reduceMul, Nat.reduceLeDiff, Nat.reduceLT, ↓reduceIte, hS3, hZ3, hp13, hk3a, hgx, hkq, hAr, hP]; done) | (simp (disch := omega) only [push_cast, Int.reduceAdd, Nat.reduceEqDiff, Nat.reduceAdd, Nat.reduceSub, Nat.reduceMul, Nat.reduceLeDiff, Nat.reduceLT, ↓reduceIte, hS3, hZ3, hp13, hk3a, hgx, hkq, hAr, hP] <;> first | rfl | omega) | omega))
              · have hdd : od3 ++ [x] = (setDoor h n0.toNat lst).take (k3 + 1) := by
                  rw [List.take_add_one, hp03]
                  congr 1
                  unfold setDoor
                  rw [List.getElem?_set, if_neg (by omega), hx]; rfl
                repeat' first
                  | refine AW.seq ?_ | refine AW.region ?_ | refine AW.ret ?_ | refine AW.block ?_ | refine AW.skip ?_ | refine AW.exit ?_ | refine AW.scope ?_ | refine AW.label ?_ | refine AWL.nil ?_ | refine D.nil ?_
                  | refine W.draw cx_mixed (by decide +kernel) ?_
                  | ((first | (apply W.step cx_ok; decide) | (apply D.step cx_ok; decide; decide) | apply W.store cx_ok | (apply W.gS; rfl; decide) | (apply D.gS; rfl; decide; decide) | apply AW.cond); (simp (disch := omega) only [push_cast, Int.reduceAdd, Nat.reduceEqDiff, Nat.reduceAdd, Nat.reduceSub, Nat.reduceMul, Nat.reduceLeDiff, Nat.reduceLT, ↓reduceIte, hS3, hZ3, hp13, hAr, hP, hk3a, hgx, hkn] <;> rfl); all_goals (try ((with_reducible intro hI); first | (cases hI; done) | (simp only [INTS] at hI; first | (exfalso; omega) | (have hT : True := hI; clear hT hI) | skip) | skip)))
                  | ((first | (apply W.gU; rfl; decide) | (apply D.gU; rfl; decide; decide)); (simp (disch := omega) only [push_cast, Int.reduceAdd, Nat.reduceEqDiff, Nat.reduceAdd, Nat.reduceSub, Nat.reduceMul, Nat.reduceLeDiff, Nat.reduceLT, ↓reduceIte, hS3, hZ3, hp13, hAr, hP, hk3a, hgx, hkn] <;> rfl))
                  | (apply W.append cx_ok; decide; rfl; rfl; rfl; decide; (iterate 3 (simp (disch := omega) only [push_cast, Int.reduceAdd, Nat.reduceEqDiff, Nat.reduceAdd, Nat.reduceSub, Nat.reduceMul, Nat.reduceLeDiff, Nat.reduceLT, ↓reduceIte, hS3, hZ3, hp13, hAr, hP, hk3a, hgx, hkn] <;> rfl)); simp; (rfl); ((try dsimp only); (try simp only [List.length_map, List.length_append, List.length_cons, List.length_nil]); omega); ((try dsimp only); (try simp only [List.length_map, List.length_append, List.length_cons, List.length_nil]); omega))
                  | ((first | apply W.retC | apply W.endC' | apply W.retM | apply W.endM' | apply W.ret1 | apply W.end1 | apply W.ret2 | apply W.end2 | apply W.ret3 | apply W.end3 | apply W.ret0 | apply W.end0); (iterate 2 (try (simp (disch := omega) only [push_cast, Int.reduceAdd, Nat.reduceEqDiff, Nat.reduceAdd, Nat.reduceSub, Nat.reduceMul, Nat.reduceLeDiff, Nat.reduceLT, ↓reduceIte, hS3, hZ3, hp13, hAr, hP, hk3a, hgx, hkn] <;> rfl))); (skip))
                all_goals
                  (refine ⟨(h.doors.length - (k3 + 1)), ?_, k3 + 1, B3, D3, od3 ++ [x], rfl, hdd, (by simp [hp13]), (by omega), (by simp (disch := omega) only [push_cast, Int.reduceAdd, Nat.reduceEqDiff, Nat.reduceAdd, Nat.reduceSub, Nat.reduceMul, Nat.reduceLeDiff, Nat.reduceLT, ↓reduceIte, hS3, hZ3, hp13, hAr, hP]; omega), ?_, ?_, ?_, ?_, ?_, ?_, ?_, ?_, ?_, ?_, ?_⟩; (omega); all_goals (first | (simp (disch := omega) only [push_cast, Int.reduceAdd, Nat.reduceEqDiff, Nat.reduceAdd, Nat.reduceSub, Nat.reduceMul, Nat.reduceLeDiff, Nat.reduceLT, ↓reduceIte, hS3, hZ3, hp13, hk3a, hgx, hkn, hAr, hP]; done) | (simp (disch := omega) only [push_cast, Int.reduceAdd, Nat.reduceEqDiff, Nat.reduceAdd, Nat.reduceSub, Nat.reduceMul, Nat.reduceLeDiff, Nat.reduceLT, ↓reduceIte, hS3, hZ3, hp13, hk3a, hgx, hkn, hAr, hP] <;> first | rfl | omega) | omega))
            · have hk3a : ¬ (k3 : Int) < (h.doors.length : Int) := by omega
              have hko : od3 = setDoor h n0.toNat lst := by rw [hp03, List.take_of_length_le (by omega)]
              repeat' first
                | refine AW.seq ?_ | refine AW.region ?_ | refine AW.ret ?_ | refine AW.block ?_ | refine AW.skip ?_ | refine AW.exit ?_ | refine AW.scope ?_ | refine AW.label ?_ | refine AWL.nil ?_ | refine D.nil ?_
                | refine W.draw cx_mixed (by decide +kernel) ?_
                | ((first | (apply W.step cx_ok; decide) | (apply D.step cx_ok; decide; decide) | apply W.store cx_ok | (apply W.gS; rfl; decide) | (apply D.gS; rfl; decide; decide) | apply AW.cond); (simp (disch := omega) only [push_cast, Int.reduceAdd, Nat.reduceEqDiff, Nat.reduceAdd, Nat.reduceSub, Nat.reduceMul, Nat.reduceLeDiff, Nat.reduceLT, ↓reduceIte, hS3, hZ3, hp13, hAr, hP, hk3a] <;> rfl); all_goals (try ((with_reducible intro hI); first | (cases hI; done) | (simp only [INTS] at hI; first | (exfalso; omega) | (have hT : True := hI; clear hT hI) | skip) | skip)))
                | ((first | (apply W.gU; rfl; decide) | (apply D.gU; rfl; decide; decide)); (simp (disch := omega) only [push_cast, Int.reduceAdd, Nat.reduceEqDiff, Nat.reduceAdd, Nat.reduceSub, Nat.reduceMul, Nat.reduceLeDiff, Nat.reduceLT, ↓reduceIte, hS3, hZ3, hp13, hAr, hP, hk3a] <;> rfl))
                | ((first | apply W.retC | apply W.endC' | apply W.retM | apply W.endM' | apply W.ret1 | apply W.end1 | apply W.ret2 | apply W.end2 | apply W.ret3 | apply W.end3 | apply W.ret0 | apply W.end0); (iterate 2 (try (simp (disch := omega) only [push_cast, Int.reduceAdd, Nat.reduceEqDiff, Nat.reduceAdd, Nat.reduceSub, Nat.reduceMul, Nat.reduceLeDiff, Nat.reduceLT, ↓reduceIte, hS3, hZ3, hp13, hAr, hP, hk3a] <;> rfl))); (skip))
              all_goals (show _ = _; rw [hko])
      · obtain ⟨hk1_, hg1_, hd'1_, hl'1_, hm1_, hx1_⟩ := drop_cons hp01_ eSpan []
        have hxb := hshb x hm1_
        have x1 := hxb.1
        have x2 := hxb.2.1
        have x3 := hxb.2.2
        repeat' first
          | refine AW.seq ?_ | refine AW.region ?_ | refine AW.ret ?_ | refine AW.block ?_ | refine AW.skip ?_ | refine AW.exit ?_ | refine AW.scope ?_ | refine AW.label ?_ | refine AWL.nil ?_ | refine D.nil ?_
          | refine AW.draw (id := 13) cx_mixed [17] [] [] 0 (by decide +kernel) ?_
          | refine W.draw cx_mixed (by decide +kernel) ?_
          | ((first | (apply W.step cx_ok; decide) | (apply D.step cx_ok; decide; decide) | apply W.store cx_ok | (apply W.gS; rfl; decide) | (apply D.gS; rfl; decide; decide) | apply AW.cond); (simp (disch := omega) only [push_cast, Int.reduceAdd, Nat.reduceEqDiff, Nat.reduceAdd, Nat.reduceSub, Nat.reduceMul, Nat.reduceLeDiff, Nat.reduceLT, ↓reduceIte, hS1_, hZ1_, hdn, hdl, hdg, hsh, hk1_, hg1_] <;> rfl); all_goals (try ((with_reducible intro hI); first | (cases hI; done) | (simp only [INTS] at hI; first | (exfalso; omega) | (have hT : True := hI; clear hT hI) | skip) | skip)))
          | ((first | (apply W.gU; rfl; decide) | (apply D.gU; rfl; decide; decide) | (apply D.store cx_ok; decide) | (apply D.stept cx_ok; decide; decide) | (apply D.stepm cx_ok; decide; decide)); (simp (disch := omega) only [push_cast, Int.reduceAdd, Nat.reduceEqDiff, Nat.reduceAdd, Nat.reduceSub, Nat.reduceMul, Nat.reduceLeDiff, Nat.reduceLT, ↓reduceIte, hS1_, hZ1_, hdn, hdl, hdg, hsh, hk1_, hg1_] <;> rfl); try first | exact .inl rfl | exact .inr (by simp))
          | ((apply D.alloct cx_ok; decide; decide); (simp (disch := omega) only [push_cast, Int.reduceAdd, Nat.reduceEqDiff, Nat.reduceAdd, Nat.reduceSub, Nat.reduceMul, Nat.reduceLeDiff, Nat.reduceLT, ↓reduceIte, hS1_, hZ1_, hdn, hdl, hdg, hsh, hk1_, hg1_] <;> rfl); first | exact .inl rfl | exact .inr (by simp))
          | (apply W.append cx_ok; decide; rfl; rfl; rfl; decide; (iterate 3 (simp (disch := omega) only [push_cast, Int.reduceAdd, Nat.reduceEqDiff, Nat.reduceAdd, Nat.reduceSub, Nat.reduceMul, Nat.reduceLeDiff, Nat.reduceLT, ↓reduceIte, hS1_, hZ1_, hdn, hdl, hdg, hsh, hk1_, hg1_] <;> rfl)); simp; (rfl); ((try dsimp only); (try simp only [List.length_map, List.length_append, List.length_cons, List.length_nil]); omega); ((try dsimp only); (try simp only [List.length_map, List.length_append, List.length_cons, List.length_nil]); omega))
          | ((first | apply W.retC | apply W.endC' | apply W.retM | apply W.endM' | apply W.ret1 | apply W.end1 | apply W.ret2 | apply W.end2 | apply W.ret3 | apply W.end3 | apply W.ret0 | apply W.end0); (iterate 2 (try (simp (disch := omega) only [push_cast, Int.reduceAdd, Nat.reduceEqDiff, Nat.reduceAdd, Nat.reduceSub, Nat.reduceMul, Nat.reduceLeDiff, Nat.reduceLT, ↓reduceIte, hS1_, hZ1_, hdn, hdl, hdg, hsh, hk1_, hg1_] <;> rfl))); (skip))
        all_goals first
          | (have hq : keepR (x :: rest1_) s11_ = (x :: (keepR rest1_ s11_).1, (keepR rest1_ s11_).2) := by rw [keepR, if_pos (by omega)]
             rw [hq] at e1 e2
             (refine ⟨rest1_.length, ?_, k1_ + 1, out1_ ++ [x], s11_, rest1_, rfl, hd'1_, ⟨by rw [← e1]; simp, e2⟩, (by simp only [List.length_append, List.length_cons, List.length_nil]; omega), ⟨b1, b2, b3⟩, ?_, ?_, ?_, ?_, ?_, ?_, ?_, ?_, ?_, ?_, ?_, ?_⟩; ((simp only [List.length_cons] at *; omega)); all_goals (first | (simp (disch := omega) only [push_cast, Int.reduceAdd, Nat.reduceEqDiff, Nat.reduceAdd, Nat.reduceSub, Nat.reduceMul, Nat.reduceLeDiff, Nat.reduceLT, ↓reduceIte, hS1_, hZ1_, hg1_, hk1_]; done) | (simp (disch := omega) only [push_cast, Int.reduceAdd, Nat.reduceEqDiff, Nat.reduceAdd, Nat.reduceSub, Nat.reduceMul, Nat.reduceLeDiff, Nat.reduceLT, ↓reduceIte, hS1_, hZ1_, hg1_, hk1_] <;> first | rfl | omega) | omega)))
          | (have hq : keepR (x :: rest1_) s11_ = keepR rest1_ (mergeS s11_ x) := by rw [keepR, if_neg (by omega)]
             rw [hq] at e1 e2
             (refine ⟨rest1_.length, ?_, k1_ + 1, out1_, mergeS s11_ x, rest1_, rfl, hd'1_, ⟨e1, e2⟩, (by omega), (by simp only [mergeS]; omega), ?_, ?_, ?_, ?_, ?_, ?_, ?_, ?_, ?_, ?_, ?_, ?_⟩; ((simp only [List.length_cons] at *; omega)); all_goals (first | (simp (disch := omega) only [push_cast, Int.reduceAdd, Nat.reduceEqDiff, Nat.reduceAdd, Nat.reduceSub, Nat.reduceMul, Nat.reduceLeDiff, Nat.reduceLT, ↓reduceIte, hS1_, hZ1_, hg1_, hk1_, mergeS]; done) | (simp (disch := omega) only [push_cast, Int.reduceAdd, Nat.reduceEqDiff, Nat.reduceAdd, Nat.reduceSub, Nat.reduceMul, Nat.reduceLeDiff, Nat.reduceLT, ↓reduceIte, hS1_, hZ1_, hg1_, hk1_, mergeS] <;> first | rfl | omega) | omega)))
  ·
    refine OKat.of_bodyC cx_ok (rs := [.cell 6 26, .tmp 7]) Tryd.func25 rfl (by decide +kernel) rfl (by decide) (by simp [Tryd.ntmps25]) ?_
    simp only [Tryd.ntmps25]
    repeat' first
      | refine AW.seq ?_ | refine AW.region ?_ | refine AW.ret ?_ | refine AW.block ?_ | refine AW.skip ?_ | refine AW.exit ?_ | refine AW.scope ?_ | refine AW.label ?_ | refine AWL.nil ?_ | refine D.nil ?_
      | refine W.draw cx_mixed (by decide +kernel) ?_
      | ((first | (apply W.step cx_ok; decide) | (apply D.step cx_ok; decide; decide) | apply W.store cx_ok | (apply W.gS; rfl; decide) | (apply D.gS; rfl; decide; decide) | apply AW.cond); (simp (disch := omega) only [push_cast, Int.reduceAdd, Nat.reduceEqDiff, Nat.reduceAdd, Nat.reduceSub, Nat.reduceMul, Nat.reduceLeDiff, Nat.reduceLT, ↓reduceIte, he] <;> rfl); all_goals (try ((with_reducible intro hI); first | (cases hI; done) | (simp only [INTS] at hI; first | (exfalso; omega) | (have hT : True := hI; clear hT hI) | skip) | skip)))
      | ((first | (apply W.gU; rfl; decide) | (apply D.gU; rfl; decide; decide)); (simp (disch := omega) only [push_cast, Int.reduceAdd, Nat.reduceEqDiff, Nat.reduceAdd, Nat.reduceSub, Nat.reduceMul, Nat.reduceLeDiff, Nat.reduceLT, ↓reduceIte, he] <;> rfl))
      | ((first | (apply W.callv cx_ok; decide) | (apply D.callv cx_ok; decide; decide)); (iterate 2 (simp (disch := omega) only [push_cast, Int.reduceAdd, Nat.reduceEqDiff, Nat.reduceAdd, Nat.reduceSub, Nat.reduceMul, Nat.reduceLeDiff, Nat.reduceLT, ↓reduceIte, he] <;> rfl)); (with_reducible first | exact doorR_ok _ _ _ hfit); try first | rfl | (simp (disch := omega) only [push_cast, Int.reduceAdd, Nat.reduceEqDiff, Nat.reduceAdd, Nat.reduceSub, Nat.reduceMul, Nat.reduceLeDiff, Nat.reduceLT, ↓reduceIte, he] <;> rfl))
      | ((first | apply W.retC | apply W.endC' | apply W.retM | apply W.endM' | apply W.ret1 | apply W.end1 | apply W.ret2 | apply W.end2 | apply W.ret3 | apply W.end3 | apply W.ret0 | apply W.end0); (iterate 2 (try (simp (disch := omega) only [push_cast, Int.reduceAdd, Nat.reduceEqDiff, Nat.reduceAdd, Nat.reduceSub, Nat.reduceMul, Nat.reduceLeDiff, Nat.reduceLT, ↓reduceIte, he] <;> rfl))); (skip))
    all_goals (show _ = _; unfold shutDoorR; rw [if_pos he]; rfl)

end Go.Proofs.Hs
