/-
  Contracts of functions, proved by going through their code. No conditions.
-/
import Derived.Test.YtofdhddbfjfkcaaDoorHa
import Derived.Test.YtofdhddbfjfkcaaDoorHc
import Derived.Test.YtofdhddbfjfkcaaDoorHe
set_option maxHeartbeats 8000000
set_option linter.unusedSimpArgs false
set_option linter.unusedVariables false
set_option maxRecDepth 10000
namespace Go.Proofs.Hs
open Go Go.Pg Go.Proofs

theorem SameSpans_ok (l : List Span) (hl : l.length ≤ 1099511627776) : OKv cx 71 [lSpan l, lSpan l] (ab true) := by
  refine OKat.of_body (rs := [4]) Tryd.func71 rfl (by decide +kernel) rfl (by simp [Tryd.ntmps71]) ?_
  simp only [Tryd.ntmps71]
  repeat' first
    | apply AW.seq | apply AW.region | apply AW.ret | apply AW.block | apply AW.skip | apply AW.exit | apply AW.scope | apply AW.label | apply AWL.nil | apply D.nil
    | refine W.draw cx_mixed (by decide +kernel) ?_
    | ((first | (apply W.step cx_ok; decide) | (apply D.step cx_ok; decide; decide) | apply AW.cond); (simp (disch := omega) only [push_cast, simprocAttr] <;> rfl); all_goals try ((with_reducible intro hI); try first | (cases hI; done) | (simp only [INTS] at hI; try first | (exfalso; omega) | (have hT : True := hI; clear hT hI))))
    | ((first | apply W.ret1 | apply W.end1); (iterate 2 (try (simp (disch := omega) only [push_cast, simprocAttr] <;> rfl))))
  all_goals try (exact absurd trivial (by assumption))
  refine AW.loop (fun n s => ∃ (k : Nat) (rest : List Span), n = rest.length ∧ (l.drop k = rest) ∧ s.tm 0 = lSpan l ∧ s.tm 1 = lSpan l ∧ s.tm 5 = ai k) (l.length) ⟨0, l, rfl, rfl, ?_, ?_, ?_⟩ ?_
  iterate 3 (first | (simp (disch := omega) only [push_cast, simprocAttr] <;> first | rfl | omega) | omega)
  rintro n s ⟨k, rest, hn, hp0, hS⟩
  rcases rest with _ | ⟨x, rest⟩
  · have hk := drop_nil hp0
    repeat' first
      | apply AW.seq | apply AW.region | apply AW.ret | apply AW.block | apply AW.skip | apply AW.exit | apply AW.scope | apply AW.label | apply AWL.nil | apply D.nil
      | refine W.draw cx_mixed (by decide +kernel) ?_
      | ((first | (apply W.step cx_ok; decide) | (apply D.step cx_ok; decide; decide) | apply AW.cond); (simp (disch := omega) only [push_cast, simprocAttr, hS, hk] <;> rfl); all_goals try ((with_reducible intro hI); try first | (cases hI; done) | (simp only [INTS] at hI; try first | (exfalso; omega) | (have hT : True := hI; clear hT hI))))
      | ((first | apply W.ret1 | apply W.end1); (iterate 2 (try (simp (disch := omega) only [push_cast, simprocAttr, hS, hk] <;> rfl))))
    all_goals (show _ = _; rfl)
  · obtain ⟨hk, hg, hd', hl', hm, hx⟩ := drop_cons hp0 eSpan []
    repeat' first
      | apply AW.seq | apply AW.region | apply AW.ret | apply AW.block | apply AW.skip | apply AW.exit | apply AW.scope | apply AW.label | apply AWL.nil | apply D.nil
      | refine W.draw cx_mixed (by decide +kernel) ?_
      | ((first | (apply W.step cx_ok; decide) | (apply D.step cx_ok; decide; decide) | apply AW.cond); (simp (disch := omega) only [push_cast, simprocAttr, hS, hk, hg] <;> rfl); all_goals try ((with_reducible intro hI); try first | (cases hI; done) | (simp only [INTS] at hI; try first | (exfalso; omega) | (have hT : True := hI; clear hT hI))))
      | ((first | apply W.ret1 | apply W.end1); (iterate 2 (try (simp (disch := omega) only [push_cast, simprocAttr, hS, hk, hg] <;> rfl))))
    all_goals first
      | (exfalso; first | exact absurd trivial (by assumption) | omega | (simp_all; done))
      | (refine ⟨rest.length, ?_, k + 1, rest, rfl, hd', ?_, ?_, ?_⟩; ((simp only [List.length_cons] at *; omega)); all_goals first | (simp (disch := omega) only [push_cast, simprocAttr, hS, hg, hk] <;> first | rfl | omega) | omega)

theorem Same_ok (h : House) (hr : h.rooms.length ≤ 1048576) (hd : h.doors.length ≤ 1048576) (hw : h.ways.length ≤ 1048576) (hds : ∀ d ∈ h.doors, d.hours.length ≤ 1048576 ∧ d.shut.length ≤ 1048576) : OKv cx 26 [.agg (eHouse h), .agg (eHouse h)] (ab true) := by
  refine OKat.of_body (rs := [4]) Tryd.func26 rfl (by decide +kernel) rfl (by simp [Tryd.ntmps26]) ?_
  simp only [Tryd.ntmps26]
  repeat' first
    | apply AW.seq | apply AW.region | apply AW.ret | apply AW.block | apply AW.skip | apply AW.exit | apply AW.scope | apply AW.label | apply AWL.nil | apply D.nil
    | refine W.draw cx_mixed (by decide +kernel) ?_
    | ((first | (apply W.step cx_ok; decide) | (apply D.step cx_ok; decide; decide) | (apply W.gS; rfl; decide) | (apply D.gS; rfl; decide; decide) | apply AW.cond); (simp (disch := omega) only [push_cast, simprocAttr] <;> rfl); all_goals try ((with_reducible intro hI); try first | (cases hI; done) | (simp only [INTS] at hI; try first | (exfalso; omega) | (have hT : True := hI; clear hT hI))))
    | ((first | apply W.ret1 | apply W.end1); (iterate 2 (try (simp (disch := omega) only [push_cast, simprocAttr] <;> rfl))))
  all_goals try (exfalso; first | exact absurd trivial (by assumption) | omega | (simp_all; done))
  refine AW.loop (fun n s => ∃ (k : Nat) (rest : List Room), n = rest.length ∧ (h.rooms.drop k = rest) ∧ 2 ≤ s.nx ∧ s.tm 2 = .ptr 0 0 0 1 ∧ s.tm 3 = .ptr 1 0 0 1 ∧ s.tm 5 = ai k ∧ Pg.rowAt s.H (0) = some ({ k := 3, es := [eHouse h], ty := 26 }) ∧ Pg.rowAt s.H (1) = some ({ k := 3, es := [eHouse h], ty := 26 })) (h.rooms.length) ⟨0, _, rfl, rfl, ?_, ?_, ?_, ?_, ?_, ?_⟩ ?_
  iterate 6 (first | (simp (disch := omega) only [push_cast, simprocAttr] <;> first | rfl | omega) | omega)
  rintro n s ⟨k, rest, hn, hp0, hnl, hS⟩
  have hZ : (0 : Nat) ≠ s.nx ∧ s.nx ≠ (0 : Nat) ∧ (1 : Nat) ≠ s.nx ∧ s.nx ≠ (1 : Nat) := by omega
  rcases rest with _ | ⟨x, rest⟩
  · have hk := drop_nil hp0
    repeat' first
      | apply AW.seq | apply AW.region | apply AW.ret | apply AW.block | apply AW.skip | apply AW.exit | apply AW.scope | apply AW.label | apply AWL.nil | apply D.nil
      | refine W.draw cx_mixed (by decide +kernel) ?_
      | ((first | (apply W.step cx_ok; decide) | (apply D.step cx_ok; decide; decide) | (apply W.gS; rfl; decide) | (apply D.gS; rfl; decide; decide) | apply AW.cond); (simp (disch := omega) only [push_cast, simprocAttr, hS, hZ, hk] <;> rfl); all_goals try ((with_reducible intro hI); try first | (cases hI; done) | (simp only [INTS] at hI; try first | (exfalso; omega) | (have hT : True := hI; clear hT hI))))
      | ((first | apply W.ret1 | apply W.end1); (iterate 2 (try (simp (disch := omega) only [push_cast, simprocAttr, hS, hZ, hk] <;> rfl))))
    refine AW.loop (fun n s => ∃ (k : Nat) (rest : List Door), n = rest.length ∧ (h.doors.drop k = rest) ∧ 2 ≤ s.nx ∧ s.tm 2 = .ptr 0 0 0 1 ∧ s.tm 3 = .ptr 1 0 0 1 ∧ s.tm 6 = ai k ∧ Pg.rowAt s.H (0) = some ({ k := 3, es := [eHouse h], ty := 26 }) ∧ Pg.rowAt s.H (1) = some ({ k := 3, es := [eHouse h], ty := 26 })) (h.doors.length) ⟨0, _, rfl, rfl, ?_, ?_, ?_, ?_, ?_, ?_⟩ ?_
    iterate 6 (first | (simp (disch := omega) only [push_cast, simprocAttr, hS, hZ, hk] <;> first | rfl | omega) | omega)
    rintro n2 s2 ⟨k2, rest2, hn2, hp02, hnl2, hS2⟩
    have hZ2 : (0 : Nat) ≠ s2.nx ∧ s2.nx ≠ (0 : Nat) ∧ (1 : Nat) ≠ s2.nx ∧ s2.nx ≠ (1 : Nat) := by omega
    rcases rest2 with _ | ⟨x2, rest2⟩
    · have hk2 := drop_nil hp02
      repeat' first
        | apply AW.seq | apply AW.region | apply AW.ret | apply AW.block | apply AW.skip | apply AW.exit | apply AW.scope | apply AW.label | apply AWL.nil | apply D.nil
        | refine W.draw cx_mixed (by decide +kernel) ?_
        | ((first | (apply W.step cx_ok; decide) | (apply D.step cx_ok; decide; decide) | (apply W.gS; rfl; decide) | (apply D.gS; rfl; decide; decide) | apply AW.cond); (simp (disch := omega) only [push_cast, simprocAttr, hS2, hZ2, hk2] <;> rfl); all_goals try ((with_reducible intro hI); try first | (cases hI; done) | (simp only [INTS] at hI; try first | (exfalso; omega) | (have hT : True := hI; clear hT hI))))
        | ((first | (apply W.callv cx_ok; decide) | (apply D.callv cx_ok; decide; decide)); (iterate 2 (simp (disch := omega) only [push_cast, simprocAttr, hS2, hZ2, hk2] <;> rfl)); (with_reducible first | exact SameSpans_ok _ (by have := hds _ hm2; omega)); try first | rfl | (simp (disch := omega) only [push_cast, simprocAttr, hS2, hZ2, hk2] <;> rfl))
        | ((first | apply W.ret1 | apply W.end1); (iterate 2 (try (simp (disch := omega) only [push_cast, simprocAttr, hS2, hZ2, hk2] <;> rfl))))
      refine AW.loop (fun n s => ∃ (k : Nat) (rest : List Way), n = rest.length ∧ (h.ways.drop k = rest) ∧ 2 ≤ s.nx ∧ s.tm 2 = .ptr 0 0 0 1 ∧ s.tm 3 = .ptr 1 0 0 1 ∧ s.tm 9 = ai k ∧ Pg.rowAt s.H (0) = some ({ k := 3, es := [eHouse h], ty := 26 }) ∧ Pg.rowAt s.H (1) = some ({ k := 3, es := [eHouse h], ty := 26 })) (h.ways.length) ⟨0, _, rfl, rfl, ?_, ?_, ?_, ?_, ?_, ?_⟩ ?_
      iterate 6 (first | (simp (disch := omega) only [push_cast, simprocAttr, hS2, hZ2, hk2] <;> first | rfl | omega) | omega)
      rintro n3 s3 ⟨k3, rest3, hn3, hp03, hnl3, hS3⟩
      have hZ3 : (0 : Nat) ≠ s3.nx ∧ s3.nx ≠ (0 : Nat) ∧ (1 : Nat) ≠ s3.nx ∧ s3.nx ≠ (1 : Nat) := by omega
      rcases rest3 with _ | ⟨x3, rest3⟩
      · have hk3 := drop_nil hp03
        repeat' first
          | apply AW.seq | apply AW.region | apply AW.ret | apply AW.block | apply AW.skip | apply AW.exit | apply AW.scope | apply AW.label | apply AWL.nil | apply D.nil
          | refine W.draw cx_mixed (by decide +kernel) ?_
          | ((first | (apply W.step cx_ok; decide) | (apply D.step cx_ok; decide; decide) | (apply W.gS; rfl; decide) | (apply D.gS; rfl; decide; decide) | apply AW.cond); (simp (disch := omega) only [push_cast, simprocAttr, hS3, hZ3, hk3] <;> rfl); all_goals try ((with_reducible intro hI); try first | (cases hI; done) | (simp only [INTS] at hI; try first | (exfalso; omega) | (have hT : True := hI; clear hT hI))))
          | ((first | apply W.ret1 | apply W.end1); (iterate 2 (try (simp (disch := omega) only [push_cast, simprocAttr, hS3, hZ3, hk3] <;> rfl))))
        all_goals (show _ = _; rfl)
      · obtain ⟨hk3, hg3, hd'3, hl'3, hm3, hx3⟩ := drop_cons hp03 eWay []
        repeat' first
          | apply AW.seq | apply AW.region | apply AW.ret | apply AW.block | apply AW.skip | apply AW.exit | apply AW.scope | apply AW.label | apply AWL.nil | apply D.nil
          | refine W.draw cx_mixed (by decide +kernel) ?_
          | ((first | (apply W.step cx_ok; decide) | (apply D.step cx_ok; decide; decide) | (apply W.gS; rfl; decide) | (apply D.gS; rfl; decide; decide) | apply AW.cond); (simp (disch := omega) only [push_cast, simprocAttr, hS3, hZ3, hk3, hg3] <;> rfl); all_goals try ((with_reducible intro hI); try first | (cases hI; done) | (simp only [INTS] at hI; try first | (exfalso; omega) | (have hT : True := hI; clear hT hI))))
          | ((first | apply W.ret1 | apply W.end1); (iterate 2 (try (simp (disch := omega) only [push_cast, simprocAttr, hS3, hZ3, hk3, hg3] <;> rfl))))
        all_goals first
          | (exfalso; first | exact absurd trivial (by assumption) | omega | (simp_all; done))
          | (refine ⟨rest3.length, ?_, k3 + 1, rest3, rfl, hd'3, ?_, ?_, ?_, ?_, ?_, ?_⟩; ((simp only [List.length_cons] at *; omega)); all_goals first | (simp (disch := omega) only [push_cast, simprocAttr, hS3, hZ3, hg3, hk3] <;> first | rfl | omega) | omega)
    · obtain ⟨hk2, hg2, hd'2, hl'2, hm2, hx2⟩ := drop_cons hp02 eDoor []
      repeat' first
        | apply AW.seq | apply AW.region | apply AW.ret | apply AW.block | apply AW.skip | apply AW.exit | apply AW.scope | apply AW.label | apply AWL.nil | apply D.nil
        | refine W.draw cx_mixed (by decide +kernel) ?_
        | ((first | (apply W.step cx_ok; decide) | (apply D.step cx_ok; decide; decide) | (apply W.gS; rfl; decide) | (apply D.gS; rfl; decide; decide) | apply AW.cond); (simp (disch := omega) only [push_cast, simprocAttr, hS2, hZ2, hk2, hg2] <;> rfl); all_goals try ((with_reducible intro hI); try first | (cases hI; done) | (simp only [INTS] at hI; try first | (exfalso; omega) | (have hT : True := hI; clear hT hI))))
        | ((first | (apply W.callv cx_ok; decide) | (apply D.callv cx_ok; decide; decide)); (iterate 2 (simp (disch := omega) only [push_cast, simprocAttr, hS2, hZ2, hk2, hg2] <;> rfl)); (with_reducible first | exact SameSpans_ok _ (by have := hds _ hm2; omega)); try first | rfl | (simp (disch := omega) only [push_cast, simprocAttr, hS2, hZ2, hk2, hg2] <;> rfl))
        | ((first | apply W.ret1 | apply W.end1); (iterate 2 (try (simp (disch := omega) only [push_cast, simprocAttr, hS2, hZ2, hk2, hg2] <;> rfl))))
      all_goals first
        | (exfalso; first | exact absurd trivial (by assumption) | omega | (simp_all; done))
        | (refine ⟨rest2.length, ?_, k2 + 1, rest2, rfl, hd'2, ?_, ?_, ?_, ?_, ?_, ?_⟩; ((simp only [List.length_cons] at *; omega)); all_goals first | (simp (disch := omega) only [push_cast, simprocAttr, hS2, hZ2, hg2, hk2] <;> first | rfl | omega) | omega)
  · obtain ⟨hk, hg, hd', hl', hm, hx⟩ := drop_cons hp0 eRoom []
    repeat' first
      | apply AW.seq | apply AW.region | apply AW.ret | apply AW.block | apply AW.skip | apply AW.exit | apply AW.scope | apply AW.label | apply AWL.nil | apply D.nil
      | refine W.draw cx_mixed (by decide +kernel) ?_
      | ((first | (apply W.step cx_ok; decide) | (apply D.step cx_ok; decide; decide) | (apply W.gS; rfl; decide) | (apply D.gS; rfl; decide; decide) | apply AW.cond); (simp (disch := omega) only [push_cast, simprocAttr, hS, hZ, hk, hg] <;> rfl); all_goals try ((with_reducible intro hI); try first | (cases hI; done) | (simp only [INTS] at hI; try first | (exfalso; omega) | (have hT : True := hI; clear hT hI))))
      | ((first | apply W.ret1 | apply W.end1); (iterate 2 (try (simp (disch := omega) only [push_cast, simprocAttr, hS, hZ, hk, hg] <;> rfl))))
    all_goals first
      | (exfalso; first | exact absurd trivial (by assumption) | omega | (simp_all; done))
      | (refine ⟨rest.length, ?_, k + 1, rest, rfl, hd', ?_, ?_, ?_, ?_, ?_, ?_⟩; ((simp only [List.length_cons] at *; omega)); all_goals first | (simp (disch := omega) only [push_cast, simprocAttr, hS, hZ, hg, hk] <;> first | rfl | omega) | omega)

def doorRE (h : House) (n t : Int) : Int := if (Check h).1 = 0 ∧ (¬ (0 ≤ n ∧ n < (h.doors.length : Int)) ∨ ¬ timeOK t) then 1 else (Check h).1
theorem doorR_ok (h : House) (n t : Int) (hfit : h.Fit) : OKv cx 81 [.agg (eHouse h), ai n, ai t] (ai (doorRE h n t)) := by
  have hfd := hfit.nd
  refine OKat.of_body (rs := [6]) Tryd.func81 rfl (by decide +kernel) rfl (by simp [Tryd.ntmps81]) ?_
  simp only [Tryd.ntmps81]
  repeat' first
    | apply AW.seq | apply AW.region | apply AW.ret | apply AW.block | apply AW.skip | apply AW.exit | apply AW.scope | apply AW.label | apply AWL.nil
    | ((first | (apply W.step cx_ok; decide) | (apply W.gS; rfl; decide) | apply AW.cond); (simp (disch := omega) only [push_cast, simprocAttr] <;> rfl); all_goals try ((with_reducible intro hI); try first | (cases hI; done) | (simp only [INTS] at hI; try first | (exfalso; omega) | (have hT : True := hI; clear hT hI))))
    | ((apply W.gU; rfl; decide); (simp (disch := omega) only [push_cast, simprocAttr] <;> rfl))
    | ((apply W.callv cx_ok; decide); (iterate 2 (simp (disch := omega) only [push_cast, simprocAttr] <;> rfl)); (with_reducible first | exact Error_ok _ hfit | exact In_ok _ _ _ | exact Time_ok _); try first | rfl | (simp (disch := omega) only [push_cast, simprocAttr] <;> rfl))
    | ((first | apply W.ret1 | apply W.end1); (iterate 2 (try (simp (disch := omega) only [push_cast, simprocAttr] <;> rfl))))
  all_goals (show _ = _; unfold doorRE timeOK; first | (rw [if_pos (by first | omega | (refine ⟨by assumption, ?_⟩; omega))]; done) | (rw [if_neg (by first | omega | (rintro ⟨_, hx⟩; omega))]; done))
theorem doorE_one (h : House) (n t : Int) : doorE h n [t] = doorRE h n t := by
  unfold doorE doorRE askedE
  by_cases hc : (Check h).1 = 0
  · by_cases hn : 0 ≤ n ∧ n < (h.doors.length : Int)
    · by_cases ht : timeOK t
      · have ht' := ht
        unfold timeOK at ht'
        simp [hc, hn, ht, timeB, ht'.1, ht'.2]
      · have ht' := ht
        unfold timeOK at ht'
        have hb : timeB t = false := by unfold timeB; rw [Bool.and_eq_false_iff, decide_eq_false_iff_not, decide_eq_false_iff_not]; omega
        simp [hc, hn, ht, hb]
    · simp [hc, hn]
  · simp [hc]
theorem doorE_nil (h : House) (n : Int) : doorE h n [] = doorRE h n 0 := by
  rw [← doorE_one]
  unfold doorE askedE
  simp [timeB]

end Go.Proofs.Hs

namespace Go.Proofs.Hs
open Go Go.Pg Go.Proofs

def bestN (d : Door) (t day : Int) : Nat → Int
  | 0 => 1073741824
  | k + 1 => hoursN d t (day + (k : Int) * 86400) (bestN d t day k)
def innerN (d : Door) (t later : Int) (y : Span) (b : Int) : Nat → Int
  | 0 => b
  | j + 1 => pickN d t (innerN d t later y b j) (later - (j : Int) * 86400 + y.lo)
theorem bestN_two (d : Door) (t : Int) : bestN d t (t / 86400 * 86400) 2 = hoursN d t (t / 86400 * 86400 + 86400) (hoursN d t (t / 86400 * 86400) 1073741824) := by
  show hoursN d t ((t / 86400 * 86400) + ((1 : Nat) : Int) * 86400) (hoursN d t ((t / 86400 * 86400) + ((0 : Nat) : Int) * 86400) 1073741824) = _
  rw [show (t / 86400 * 86400) + ((1 : Nat) : Int) * 86400 = t / 86400 * 86400 + 86400 by omega, show (t / 86400 * 86400) + ((0 : Nat) : Int) * 86400 = t / 86400 * 86400 by omega]
theorem innerN_two (d : Door) (t later : Int) (y : Span) (b : Int) : innerN d t later y b 2 = pickN d t (pickN d t b (later + y.lo)) (later - 86400 + y.lo) := by
  show pickN d t (pickN d t b (later - ((0 : Nat) : Int) * 86400 + y.lo)) (later - ((1 : Nat) : Int) * 86400 + y.lo) = _
  rw [show later - ((1 : Nat) : Int) * 86400 + y.lo = later - 86400 + y.lo by omega, show later - ((0 : Nat) : Int) * 86400 + y.lo = later + y.lo by omega]

theorem nextR_ok (d : Door) (t : Int) (hd : d.OK) (h0 : 0 ≤ t) (h1 : t ≤ 1073741824) : OKv cx 103 [.agg (eDoor d), ai t] (ai (nextR d t)) := by
  have hlen := hd.nh
  have hlen2 := hd.ns
  by_cases ho : openR d t = true
  ·
    refine OKat.of_body (rs := [4]) Tryd.func103 rfl (by decide +kernel) rfl (by simp [Tryd.ntmps103]) ?_
    simp only [Tryd.ntmps103]
    repeat' first
      | apply AW.seq | apply AW.region | apply AW.ret | apply AW.block | apply AW.skip | apply AW.exit | apply AW.scope | apply AW.label | apply AWL.nil
      | ((first | (apply W.step cx_ok; decide) | (apply W.gS; rfl; decide) | apply AW.cond); (simp (disch := omega) only [push_cast, simprocAttr, ho] <;> rfl); all_goals try ((with_reducible intro hI); try first | (cases hI; done) | (simp only [INTS] at hI; try first | (exfalso; omega) | (have hT : True := hI; clear hT hI))))
      | ((apply W.callv cx_ok; decide); (iterate 2 (simp (disch := omega) only [push_cast, simprocAttr, ho] <;> rfl)); (with_reducible first | exact openR_ok d _ (by omega) (by omega)); try first | rfl | (simp (disch := omega) only [push_cast, simprocAttr, ho] <;> rfl))
      | ((first | apply W.ret1 | apply W.end1); (iterate 2 (try (simp (disch := omega) only [push_cast, simprocAttr, ho] <;> rfl))))
    all_goals (show _ = _; unfold nextR; rw [if_pos ho])
  · have ho2 : openR d t = false := by simpa using ho
    have hN : nextR d t = d.shut.foldl (shutN d t) (bestN d t (t / 86400 * 86400) 2) := by unfold nextR; rw [if_neg ho, bestN_two]
    rw [hN]
    refine OKat.of_body (rs := [4]) Tryd.func103 rfl (by decide +kernel) rfl (by simp [Tryd.ntmps103]) ?_
    simp only [Tryd.ntmps103]
    repeat' first
      | apply AW.seq | apply AW.region | apply AW.ret | apply AW.block | apply AW.skip | apply AW.exit | apply AW.scope | apply AW.label | apply AWL.nil
      | ((first | (apply W.step cx_ok; decide) | (apply W.gS; rfl; decide) | apply AW.cond); (simp (disch := omega) only [push_cast, simprocAttr, ho2] <;> rfl); all_goals try ((with_reducible intro hI); try first | (cases hI; done) | (simp only [INTS] at hI; try first | (exfalso; omega) | (have hT : True := hI; clear hT hI))))
      | ((apply W.callv cx_ok; decide); (iterate 2 (simp (disch := omega) only [push_cast, simprocAttr, ho2] <;> rfl)); (with_reducible first | exact openR_ok d _ (by omega) (by omega)); try first | rfl | (simp (disch := omega) only [push_cast, simprocAttr, ho2] <;> rfl))
      | ((first | apply W.ret1 | apply W.end1); (iterate 2 (try (simp (disch := omega) only [push_cast, simprocAttr, ho2] <;> rfl))))
    refine AW.loop (fun n s => ∃ (kk : Nat), n = 2 - kk ∧ (kk ≤ 2) ∧ 1 ≤ s.nx ∧ s.tm 1 = ai t ∧ s.tm 2 = .ptr 0 0 0 1 ∧ s.tm 6 = ai (bestN d t (t / 86400 * 86400) kk) ∧ s.tm 7 = ai (t / 86400 * 86400) ∧ s.tm 8 = ai kk ∧ Pg.rowAt s.H (0) = some ({ k := 2, es := [eDoor d], ty := 98 })) (2) ⟨0, rfl, (by omega), ?_, ?_, ?_, ?_, ?_, ?_, ?_⟩ ?_
    iterate 7 (first | (simp (disch := omega) only [push_cast, simprocAttr, ho2, bestN] <;> first | rfl | omega) | omega)
    rintro n s ⟨kk, hn, hp0, hnl, hS⟩
    have hZ : (0 : Nat) ≠ s.nx ∧ s.nx ≠ (0 : Nat) := by omega
    by_cases hk : kk < 2
    · have hk1 : (kk : Int) < 2 := by omega
      repeat' first
        | apply AW.seq | apply AW.region | apply AW.ret | apply AW.block | apply AW.skip | apply AW.exit | apply AW.scope | apply AW.label | apply AWL.nil
        | ((first | (apply W.step cx_ok; decide) | (apply W.gS; rfl; decide) | apply AW.cond); (simp (disch := omega) only [push_cast, simprocAttr, hS, hZ, hk1] <;> rfl); all_goals try ((with_reducible intro hI); try first | (cases hI; done) | (simp only [INTS] at hI; try first | (exfalso; omega) | (have hT : True := hI; clear hT hI))))
        | ((first | apply W.ret1 | apply W.end1); (iterate 2 (try (simp (disch := omega) only [push_cast, simprocAttr, hS, hZ, hk1] <;> rfl))))
      refine AW.loop (fun n s => ∃ (i : Nat) (b : Int) (rest : List Span), n = rest.length ∧ (d.hours.drop i = rest) ∧ (rest.foldl (fun b (x : Span) => pickN d t b (((t / 86400 * 86400) + (kk : Int) * 86400) + x.lo)) b = bestN d t (t / 86400 * 86400) (kk + 1)) ∧ 1 ≤ s.nx ∧ s.tm 1 = ai t ∧ s.tm 2 = .ptr 0 0 0 1 ∧ s.tm 6 = ai b ∧ s.tm 7 = ai (t / 86400 * 86400) ∧ s.tm 8 = ai kk ∧ s.tm 9 = ai i ∧ Pg.rowAt s.H (0) = some ({ k := 2, es := [eDoor d], ty := 98 })) (d.hours.length) ⟨0, _, _, rfl, rfl, rfl, ?_, ?_, ?_, ?_, ?_, ?_, ?_, ?_⟩ ?_
      iterate 8 (first | (simp (disch := omega) only [push_cast, simprocAttr, hS, hZ, hk1] <;> first | rfl | omega) | omega)
      rintro nb sb ⟨ib, bb, restb, hnb, hp0b, hp1b, hnlb, hSb⟩
      have hZb : (0 : Nat) ≠ sb.nx ∧ sb.nx ≠ (0 : Nat) := by omega
      rcases restb with _ | ⟨xb, restb⟩
      · have hkb := drop_nil hp0b
        repeat' first
          | apply AW.seq | apply AW.region | apply AW.ret | apply AW.block | apply AW.skip | apply AW.exit | apply AW.scope | apply AW.label | apply AWL.nil
          | ((first | (apply W.step cx_ok; decide) | (apply W.gS; rfl; decide) | apply AW.cond); (simp (disch := omega) only [push_cast, simprocAttr, hSb, hZb, hkb] <;> rfl); all_goals try ((with_reducible intro hI); try first | (cases hI; done) | (simp only [INTS] at hI; try first | (exfalso; omega) | (have hT : True := hI; clear hT hI))))
          | ((first | apply W.ret1 | apply W.end1); (iterate 2 (try (simp (disch := omega) only [push_cast, simprocAttr, hSb, hZb, hkb] <;> rfl))))
        all_goals
          (have hq : bestN d t (t / 86400 * 86400) (kk + 1) = bb := by rw [← hp1b]; rfl
           (refine ⟨(2 - (kk + 1)), ?_, kk + 1, rfl, (by omega), ?_, ?_, ?_, ?_, ?_, ?_, ?_⟩; (omega); all_goals first | (simp (disch := omega) only [push_cast, simprocAttr, hSb, hZb, hq, hk1] <;> first | rfl | omega) | omega))
      · obtain ⟨hkb, hgb, hd'b, hl'b, hmb, hxb⟩ := drop_cons hp0b eSpan []
        have hb := hd.hours _ hmb
        repeat' first
          | apply AW.seq | apply AW.region | apply AW.ret | apply AW.block | apply AW.skip | apply AW.exit | apply AW.scope | apply AW.label | apply AWL.nil
          | ((first | (apply W.step cx_ok; decide) | (apply W.gS; rfl; decide) | apply AW.cond); (simp (disch := omega) only [push_cast, simprocAttr, hSb, hZb, hkb, hgb] <;> rfl); all_goals try ((with_reducible intro hI); try first | (cases hI; done) | (simp only [INTS] at hI; try first | (exfalso; omega) | (have hT : True := hI; clear hT hI))))
          | ((apply W.callv cx_ok; decide); (iterate 2 (simp (disch := omega) only [push_cast, simprocAttr, hSb, hZb, hkb, hgb] <;> rfl)); (with_reducible first | exact openR_ok d _ (by omega) (by omega)); try first | rfl | (simp (disch := omega) only [push_cast, simprocAttr, hSb, hZb, hkb, hgb] <;> rfl))
          | ((first | apply W.ret1 | apply W.end1); (iterate 2 (try (simp (disch := omega) only [push_cast, simprocAttr, hSb, hZb, hkb, hgb] <;> rfl))))
        all_goals first
          | (have hq : pickN d t bb (((t / 86400 * 86400) + (kk : Int) * 86400) + xb.lo) = (((t / 86400 * 86400) + (kk : Int) * 86400) + xb.lo) := by unfold pickN; rw [if_pos ⟨by omega, by omega, by assumption⟩]
             (refine ⟨restb.length, ?_, ib + 1, pickN d t bb (((t / 86400 * 86400) + (kk : Int) * 86400) + xb.lo), restb, rfl, hd'b, hp1b, ?_, ?_, ?_, ?_, ?_, ?_, ?_, ?_⟩; ((simp only [List.length_cons] at *; omega)); all_goals first | (simp (disch := omega) only [push_cast, simprocAttr, hSb, hZb, hgb, hkb, hq] <;> first | rfl | omega) | omega))
          | (have hq : pickN d t bb (((t / 86400 * 86400) + (kk : Int) * 86400) + xb.lo) = bb := by unfold pickN; rw [if_neg (fun hx => by first | omega | (have hx3 := hx.2.2; simp_all; done))]
             (refine ⟨restb.length, ?_, ib + 1, pickN d t bb (((t / 86400 * 86400) + (kk : Int) * 86400) + xb.lo), restb, rfl, hd'b, hp1b, ?_, ?_, ?_, ?_, ?_, ?_, ?_, ?_⟩; ((simp only [List.length_cons] at *; omega)); all_goals first | (simp (disch := omega) only [push_cast, simprocAttr, hSb, hZb, hgb, hkb, hq] <;> first | rfl | omega) | omega))
    · have hk1 : ¬ (kk : Int) < 2 := by omega
      have hk2 : kk = 2 := by omega
      repeat' first
        | apply AW.seq | apply AW.region | apply AW.ret | apply AW.block | apply AW.skip | apply AW.exit | apply AW.scope | apply AW.label | apply AWL.nil
        | ((first | (apply W.step cx_ok; decide) | (apply W.gS; rfl; decide) | apply AW.cond); (simp (disch := omega) only [push_cast, simprocAttr, hS, hZ, hk1] <;> rfl); all_goals try ((with_reducible intro hI); try first | (cases hI; done) | (simp only [INTS] at hI; try first | (exfalso; omega) | (have hT : True := hI; clear hT hI))))
        | ((first | apply W.ret1 | apply W.end1); (iterate 2 (try (simp (disch := omega) only [push_cast, simprocAttr, hS, hZ, hk1] <;> rfl))))
      refine AW.loop (fun n s => ∃ (i : Nat) (b : Int) (rest : List Span), n = rest.length ∧ (d.shut.drop i = rest) ∧ (rest.foldl (shutN d t) b = d.shut.foldl (shutN d t) (bestN d t (t / 86400 * 86400) 2)) ∧ 1 ≤ s.nx ∧ s.tm 1 = ai t ∧ s.tm 2 = .ptr 0 0 0 1 ∧ s.tm 6 = ai b ∧ s.tm 12 = ai i ∧ Pg.rowAt s.H (0) = some ({ k := 2, es := [eDoor d], ty := 98 })) (d.shut.length) ⟨0, bestN d t (t / 86400 * 86400) 2, _, rfl, rfl, rfl, ?_, ?_, ?_, ?_, ?_, ?_⟩ ?_
      iterate 6 (first | (simp (disch := omega) only [push_cast, simprocAttr, hS, hZ, hk1, hk2] <;> first | rfl | omega) | omega)
      rintro nc sc ⟨ic, bc, restc, hnc, hp0c, hp1c, hnlc, hSc⟩
      have hZc : (0 : Nat) ≠ sc.nx ∧ sc.nx ≠ (0 : Nat) := by omega
      rcases restc with _ | ⟨xc, restc⟩
      · have hkc := drop_nil hp0c
        repeat' first
          | apply AW.seq | apply AW.region | apply AW.ret | apply AW.block | apply AW.skip | apply AW.exit | apply AW.scope | apply AW.label | apply AWL.nil
          | ((first | (apply W.step cx_ok; decide) | (apply W.gS; rfl; decide) | apply AW.cond); (simp (disch := omega) only [push_cast, simprocAttr, hSc, hZc, hkc] <;> rfl); all_goals try ((with_reducible intro hI); try first | (cases hI; done) | (simp only [INTS] at hI; try first | (exfalso; omega) | (have hT : True := hI; clear hT hI))))
          | ((first | apply W.ret1 | apply W.end1); (iterate 2 (try (simp (disch := omega) only [push_cast, simprocAttr, hSc, hZc, hkc] <;> rfl))))
        all_goals (show _ = _; rw [← hp1c]; rfl)
      · obtain ⟨hkc, hgc, hd'c, hl'c, hmc, hxc⟩ := drop_cons hp0c eSpan []
        have hb := hd.shut _ hmc
        have hsx : shutN d t bc xc = d.hours.foldl (fun b y => innerN d t ((xc.hi + 1) / 86400 * 86400 + 86400) y b 2) (pickN d t bc (xc.hi + 1)) := by
          unfold shutN; congr 1; funext b y; rw [innerN_two]
        repeat' first
          | apply AW.seq | apply AW.region | apply AW.ret | apply AW.block | apply AW.skip | apply AW.exit | apply AW.scope | apply AW.label | apply AWL.nil
          | ((first | (apply W.step cx_ok; decide) | (apply W.gS; rfl; decide) | apply AW.cond); (simp (disch := omega) only [push_cast, simprocAttr, hSc, hZc, hkc, hgc] <;> rfl); all_goals try ((with_reducible intro hI); try first | (cases hI; done) | (simp only [INTS] at hI; try first | (exfalso; omega) | (have hT : True := hI; clear hT hI))))
          | ((apply W.callv cx_ok; decide); (iterate 2 (simp (disch := omega) only [push_cast, simprocAttr, hSc, hZc, hkc, hgc] <;> rfl)); (with_reducible first | exact openR_ok d _ (by omega) (by omega)); try first | rfl | (simp (disch := omega) only [push_cast, simprocAttr, hSc, hZc, hkc, hgc] <;> rfl))
          | ((first | apply W.ret1 | apply W.end1); (iterate 2 (try (simp (disch := omega) only [push_cast, simprocAttr, hSc, hZc, hkc, hgc] <;> rfl))))
        all_goals
          (obtain ⟨bq, hq⟩ : ∃ bq, pickN d t bc (xc.hi + 1) = bq := ⟨_, rfl⟩
           have hq0 := hq
           unfold pickN at hq0
           first | rw [if_pos ⟨by omega, by omega, by assumption⟩] at hq0 | rw [if_neg (fun hx => by first | omega | (have hx3 := hx.2.2; simp_all; done))] at hq0
           refine AW.loop (fun n s => ∃ (k : Nat) (b : Int) (rest : List Span), n = rest.length ∧ (d.hours.drop k = rest) ∧ (rest.foldl (fun b y => innerN d t ((xc.hi + 1) / 86400 * 86400 + 86400) y b 2) b = shutN d t bc xc) ∧ 1 ≤ s.nx ∧ s.tm 1 = ai t ∧ s.tm 2 = .ptr 0 0 0 1 ∧ s.tm 6 = ai b ∧ s.tm 12 = ai ic ∧ s.tm 15 = ai ((xc.hi + 1) / 86400 * 86400 + 86400) ∧ s.tm 16 = ai k ∧ Pg.rowAt s.H (0) = some ({ k := 2, es := [eDoor d], ty := 98 })) (d.hours.length) ⟨0, bq, _, rfl, rfl, (by rw [hsx, hq]), ?_, ?_, ?_, ?_, ?_, ?_, ?_, ?_⟩ ?_
           iterate 8 (first | (simp (disch := omega) only [push_cast, simprocAttr, hSc, hZc, hkc, hgc, hq0] <;> first | rfl | omega) | omega)
           rintro nd sd ⟨kd, bd, restd, hnd, hp0d, hp1d, hnld, hSd⟩
           have hZd : (0 : Nat) ≠ sd.nx ∧ sd.nx ≠ (0 : Nat) := by omega
           rcases restd with _ | ⟨xd, restd⟩
           · have hkd := drop_nil hp0d
             repeat' first
               | apply AW.seq | apply AW.region | apply AW.ret | apply AW.block | apply AW.skip | apply AW.exit | apply AW.scope | apply AW.label | apply AWL.nil
               | ((first | (apply W.step cx_ok; decide) | (apply W.gS; rfl; decide) | apply AW.cond); (simp (disch := omega) only [push_cast, simprocAttr, hSd, hZd, hkd] <;> rfl); all_goals try ((with_reducible intro hI); try first | (cases hI; done) | (simp only [INTS] at hI; try first | (exfalso; omega) | (have hT : True := hI; clear hT hI))))
               | ((first | apply W.ret1 | apply W.end1); (iterate 2 (try (simp (disch := omega) only [push_cast, simprocAttr, hSd, hZd, hkd] <;> rfl))))
             all_goals
               (have hq2 : shutN d t bc xc = bd := by rw [← hp1d]; rfl
                (refine ⟨restc.length, ?_, ic + 1, bd, restc, rfl, hd'c, (by rw [← hp1c, List.foldl_cons, hq2]), ?_, ?_, ?_, ?_, ?_, ?_⟩; ((simp only [List.length_cons] at *; omega)); all_goals first | (simp (disch := omega) only [push_cast, simprocAttr, hSd, hZd] <;> first | rfl | omega) | omega))
           · obtain ⟨hkd, hgd, hd'd, hl'd, hmd, hxd⟩ := drop_cons hp0d eSpan []
             have hb2 := hd.hours _ hmd
             repeat' first
               | apply AW.seq | apply AW.region | apply AW.ret | apply AW.block | apply AW.skip | apply AW.exit | apply AW.scope | apply AW.label | apply AWL.nil
               | ((first | (apply W.step cx_ok; decide) | (apply W.gS; rfl; decide) | apply AW.cond); (simp (disch := omega) only [push_cast, simprocAttr, hSd, hZd, hkd, hgd] <;> rfl); all_goals try ((with_reducible intro hI); try first | (cases hI; done) | (simp only [INTS] at hI; try first | (exfalso; omega) | (have hT : True := hI; clear hT hI))))
               | ((first | apply W.ret1 | apply W.end1); (iterate 2 (try (simp (disch := omega) only [push_cast, simprocAttr, hSd, hZd, hkd, hgd] <;> rfl))))
             refine AW.loop (fun n s => ∃ (j : Nat), n = 2 - j ∧ (j ≤ 2) ∧ 1 ≤ s.nx ∧ s.tm 1 = ai t ∧ s.tm 2 = .ptr 0 0 0 1 ∧ s.tm 6 = ai (innerN d t ((xc.hi + 1) / 86400 * 86400 + 86400) xd bd j) ∧ s.tm 12 = ai ic ∧ s.tm 15 = ai ((xc.hi + 1) / 86400 * 86400 + 86400) ∧ s.tm 16 = ai kd ∧ s.tm 17 = ai j ∧ Pg.rowAt s.H (0) = some ({ k := 2, es := [eDoor d], ty := 98 })) (2) ⟨0, rfl, (by omega), ?_, ?_, ?_, ?_, ?_, ?_, ?_, ?_, ?_⟩ ?_
             iterate 9 (first | (simp (disch := omega) only [push_cast, simprocAttr, hSd, hZd, hkd, hgd, innerN] <;> first | rfl | omega) | omega)
             rintro ne se ⟨je, hne, hp0e, hnle, hSe⟩
             have hZe : (0 : Nat) ≠ se.nx ∧ se.nx ≠ (0 : Nat) := by omega
             by_cases hje : je < 2
             · have hj1 : (je : Int) < 2 := by omega
               repeat' first
                 | apply AW.seq | apply AW.region | apply AW.ret | apply AW.block | apply AW.skip | apply AW.exit | apply AW.scope | apply AW.label | apply AWL.nil
                 | ((first | (apply W.step cx_ok; decide) | (apply W.gS; rfl; decide) | apply AW.cond); (simp (disch := omega) only [push_cast, simprocAttr, hSe, hZe, hj1, hkd, hgd] <;> rfl); all_goals try ((with_reducible intro hI); try first | (cases hI; done) | (simp only [INTS] at hI; try first | (exfalso; omega) | (have hT : True := hI; clear hT hI))))
                 | ((apply W.callv cx_ok; decide); (iterate 2 (simp (disch := omega) only [push_cast, simprocAttr, hSe, hZe, hj1, hkd, hgd] <;> rfl)); (with_reducible first | exact openR_ok d _ (by omega) (by omega)); try first | rfl | (simp (disch := omega) only [push_cast, simprocAttr, hSe, hZe, hj1, hkd, hgd] <;> rfl))
                 | ((first | apply W.ret1 | apply W.end1); (iterate 2 (try (simp (disch := omega) only [push_cast, simprocAttr, hSe, hZe, hj1, hkd, hgd] <;> rfl))))
               all_goals first
                 | (have hq : pickN d t (innerN d t ((xc.hi + 1) / 86400 * 86400 + 86400) xd bd je) (((xc.hi + 1) / 86400 * 86400 + 86400) - (je : Int) * 86400 + xd.lo) = (((xc.hi + 1) / 86400 * 86400 + 86400) - (je : Int) * 86400 + xd.lo) := by unfold pickN; rw [if_pos ⟨by omega, by omega, by assumption⟩]
                    (refine ⟨(2 - (je + 1)), ?_, je + 1, rfl, (by omega), ?_, ?_, ?_, ?_, ?_, ?_, ?_, ?_, ?_⟩; (omega); all_goals first | (simp (disch := omega) only [push_cast, simprocAttr, hSe, hZe, hj1, innerN, hq] <;> first | rfl | omega) | omega))
                 | (have hq : pickN d t (innerN d t ((xc.hi + 1) / 86400 * 86400 + 86400) xd bd je) (((xc.hi + 1) / 86400 * 86400 + 86400) - (je : Int) * 86400 + xd.lo) = (innerN d t ((xc.hi + 1) / 86400 * 86400 + 86400) xd bd je) := by unfold pickN; rw [if_neg (fun hx => by first | omega | (have hx3 := hx.2.2; simp_all; done))]
                    (refine ⟨(2 - (je + 1)), ?_, je + 1, rfl, (by omega), ?_, ?_, ?_, ?_, ?_, ?_, ?_, ?_, ?_⟩; (omega); all_goals first | (simp (disch := omega) only [push_cast, simprocAttr, hSe, hZe, hj1, innerN, hq] <;> first | rfl | omega) | omega))
             · have hj1 : ¬ (je : Int) < 2 := by omega
               have hj2 : je = 2 := by omega
               repeat' first
                 | apply AW.seq | apply AW.region | apply AW.ret | apply AW.block | apply AW.skip | apply AW.exit | apply AW.scope | apply AW.label | apply AWL.nil
                 | ((first | (apply W.step cx_ok; decide) | (apply W.gS; rfl; decide) | apply AW.cond); (simp (disch := omega) only [push_cast, simprocAttr, hSe, hZe, hj1] <;> rfl); all_goals try ((with_reducible intro hI); try first | (cases hI; done) | (simp only [INTS] at hI; try first | (exfalso; omega) | (have hT : True := hI; clear hT hI))))
                 | ((first | apply W.ret1 | apply W.end1); (iterate 2 (try (simp (disch := omega) only [push_cast, simprocAttr, hSe, hZe, hj1] <;> rfl))))
               all_goals
                 (rw [List.foldl_cons] at hp1d
                  (refine ⟨restd.length, ?_, kd + 1, innerN d t ((xc.hi + 1) / 86400 * 86400 + 86400) xd bd je, restd, rfl, hd'd, (by rw [hj2]; exact hp1d), ?_, ?_, ?_, ?_, ?_, ?_, ?_, ?_⟩; ((simp only [List.length_cons] at *; omega)); all_goals first | (simp (disch := omega) only [push_cast, simprocAttr, hSe, hZe, hgd, hkd, hj1] <;> first | rfl | omega) | omega))
          )

end Go.Proofs.Hs

namespace Go.Proofs.Hs
open Go Go.Pg Go.Proofs

def bestX (d : Door) (t day : Int) : Nat → Int
  | 0 => (-1)
  | k + 1 => hoursX d t (day - (k : Int) * 86400) (bestX d t day k)
def innerX (d : Door) (t later : Int) (y : Span) (b : Int) : Nat → Int
  | 0 => b
  | j + 1 => pickX d t (innerX d t later y b j) (later + (j : Int) * 86400 + y.hi)
theorem bestX_two (d : Door) (t : Int) : bestX d t (t / 86400 * 86400) 2 = hoursX d t (t / 86400 * 86400 - 86400) (hoursX d t (t / 86400 * 86400) (-1)) := by
  show hoursX d t ((t / 86400 * 86400) - ((1 : Nat) : Int) * 86400) (hoursX d t ((t / 86400 * 86400) - ((0 : Nat) : Int) * 86400) (-1)) = _
  rw [show (t / 86400 * 86400) - ((1 : Nat) : Int) * 86400 = t / 86400 * 86400 - 86400 by omega, show (t / 86400 * 86400) - ((0 : Nat) : Int) * 86400 = t / 86400 * 86400 by omega]
theorem innerX_two (d : Door) (t later : Int) (y : Span) (b : Int) : innerX d t later y b 2 = pickX d t (pickX d t b (later + y.hi)) (later + 86400 + y.hi) := by
  show pickX d t (pickX d t b (later + ((0 : Nat) : Int) * 86400 + y.hi)) (later + ((1 : Nat) : Int) * 86400 + y.hi) = _
  rw [show later + ((1 : Nat) : Int) * 86400 + y.hi = later + 86400 + y.hi by omega, show later + ((0 : Nat) : Int) * 86400 + y.hi = later + y.hi by omega]

theorem lastR_ok (d : Door) (t : Int) (hd : d.OK) (h0 : 0 ≤ t) (h1 : t ≤ 1073741824) : OKv cx 105 [.agg (eDoor d), ai t] (ai (lastR d t)) := by
  have hlen := hd.nh
  have hlen2 := hd.ns
  by_cases ho : openR d t = true
  ·
    refine OKat.of_body (rs := [4]) Tryd.func105 rfl (by decide +kernel) rfl (by simp [Tryd.ntmps105]) ?_
    simp only [Tryd.ntmps105]
    repeat' first
      | apply AW.seq | apply AW.region | apply AW.ret | apply AW.block | apply AW.skip | apply AW.exit | apply AW.scope | apply AW.label | apply AWL.nil
      | ((first | (apply W.step cx_ok; decide) | (apply W.gS; rfl; decide) | apply AW.cond); (simp (disch := omega) only [push_cast, simprocAttr, ho] <;> rfl); all_goals try ((with_reducible intro hI); try first | (cases hI; done) | (simp only [INTS] at hI; try first | (exfalso; omega) | (have hT : True := hI; clear hT hI))))
      | ((apply W.callv cx_ok; decide); (iterate 2 (simp (disch := omega) only [push_cast, simprocAttr, ho] <;> rfl)); (with_reducible first | exact openR_ok d _ (by omega) (by omega)); try first | rfl | (simp (disch := omega) only [push_cast, simprocAttr, ho] <;> rfl))
      | ((first | apply W.ret1 | apply W.end1); (iterate 2 (try (simp (disch := omega) only [push_cast, simprocAttr, ho] <;> rfl))))
    all_goals (show _ = _; unfold lastR; rw [if_pos ho])
  · have ho2 : openR d t = false := by simpa using ho
    have hN : lastR d t = d.shut.foldl (shutX d t) (bestX d t (t / 86400 * 86400) 2) := by unfold lastR; rw [if_neg ho, bestX_two]
    rw [hN]
    refine OKat.of_body (rs := [4]) Tryd.func105 rfl (by decide +kernel) rfl (by simp [Tryd.ntmps105]) ?_
    simp only [Tryd.ntmps105]
    repeat' first
      | apply AW.seq | apply AW.region | apply AW.ret | apply AW.block | apply AW.skip | apply AW.exit | apply AW.scope | apply AW.label | apply AWL.nil
      | ((first | (apply W.step cx_ok; decide) | (apply W.gS; rfl; decide) | apply AW.cond); (simp (disch := omega) only [push_cast, simprocAttr, ho2] <;> rfl); all_goals try ((with_reducible intro hI); try first | (cases hI; done) | (simp only [INTS] at hI; try first | (exfalso; omega) | (have hT : True := hI; clear hT hI))))
      | ((apply W.callv cx_ok; decide); (iterate 2 (simp (disch := omega) only [push_cast, simprocAttr, ho2] <;> rfl)); (with_reducible first | exact openR_ok d _ (by omega) (by omega)); try first | rfl | (simp (disch := omega) only [push_cast, simprocAttr, ho2] <;> rfl))
      | ((first | apply W.ret1 | apply W.end1); (iterate 2 (try (simp (disch := omega) only [push_cast, simprocAttr, ho2] <;> rfl))))
    refine AW.loop (fun n s => ∃ (kk : Nat), n = 2 - kk ∧ (kk ≤ 2) ∧ 1 ≤ s.nx ∧ s.tm 1 = ai t ∧ s.tm 2 = .ptr 0 0 0 1 ∧ s.tm 6 = ai (bestX d t (t / 86400 * 86400) kk) ∧ s.tm 7 = ai (t / 86400 * 86400) ∧ s.tm 8 = ai kk ∧ Pg.rowAt s.H (0) = some ({ k := 2, es := [eDoor d], ty := 98 })) (2) ⟨0, rfl, (by omega), ?_, ?_, ?_, ?_, ?_, ?_, ?_⟩ ?_
    iterate 7 (first | (simp (disch := omega) only [push_cast, simprocAttr, ho2, bestX] <;> first | rfl | omega) | omega)
    rintro n s ⟨kk, hn, hp0, hnl, hS⟩
    have hZ : (0 : Nat) ≠ s.nx ∧ s.nx ≠ (0 : Nat) := by omega
    by_cases hk : kk < 2
    · have hk1 : (kk : Int) < 2 := by omega
      repeat' first
        | apply AW.seq | apply AW.region | apply AW.ret | apply AW.block | apply AW.skip | apply AW.exit | apply AW.scope | apply AW.label | apply AWL.nil
        | ((first | (apply W.step cx_ok; decide) | (apply W.gS; rfl; decide) | apply AW.cond); (simp (disch := omega) only [push_cast, simprocAttr, hS, hZ, hk1] <;> rfl); all_goals try ((with_reducible intro hI); try first | (cases hI; done) | (simp only [INTS] at hI; try first | (exfalso; omega) | (have hT : True := hI; clear hT hI))))
        | ((first | apply W.ret1 | apply W.end1); (iterate 2 (try (simp (disch := omega) only [push_cast, simprocAttr, hS, hZ, hk1] <;> rfl))))
      refine AW.loop (fun n s => ∃ (i : Nat) (b : Int) (rest : List Span), n = rest.length ∧ (d.hours.drop i = rest) ∧ (rest.foldl (fun b (x : Span) => pickX d t b (((t / 86400 * 86400) - (kk : Int) * 86400) + x.hi)) b = bestX d t (t / 86400 * 86400) (kk + 1)) ∧ 1 ≤ s.nx ∧ s.tm 1 = ai t ∧ s.tm 2 = .ptr 0 0 0 1 ∧ s.tm 6 = ai b ∧ s.tm 7 = ai (t / 86400 * 86400) ∧ s.tm 8 = ai kk ∧ s.tm 9 = ai i ∧ Pg.rowAt s.H (0) = some ({ k := 2, es := [eDoor d], ty := 98 })) (d.hours.length) ⟨0, _, _, rfl, rfl, rfl, ?_, ?_, ?_, ?_, ?_, ?_, ?_, ?_⟩ ?_
      iterate 8 (first | (simp (disch := omega) only [push_cast, simprocAttr, hS, hZ, hk1] <;> first | rfl | omega) | omega)
      rintro nb sb ⟨ib, bb, restb, hnb, hp0b, hp1b, hnlb, hSb⟩
      have hZb : (0 : Nat) ≠ sb.nx ∧ sb.nx ≠ (0 : Nat) := by omega
      rcases restb with _ | ⟨xb, restb⟩
      · have hkb := drop_nil hp0b
        repeat' first
          | apply AW.seq | apply AW.region | apply AW.ret | apply AW.block | apply AW.skip | apply AW.exit | apply AW.scope | apply AW.label | apply AWL.nil
          | ((first | (apply W.step cx_ok; decide) | (apply W.gS; rfl; decide) | apply AW.cond); (simp (disch := omega) only [push_cast, simprocAttr, hSb, hZb, hkb] <;> rfl); all_goals try ((with_reducible intro hI); try first | (cases hI; done) | (simp only [INTS] at hI; try first | (exfalso; omega) | (have hT : True := hI; clear hT hI))))
          | ((first | apply W.ret1 | apply W.end1); (iterate 2 (try (simp (disch := omega) only [push_cast, simprocAttr, hSb, hZb, hkb] <;> rfl))))
        all_goals
          (have hq : bestX d t (t / 86400 * 86400) (kk + 1) = bb := by rw [← hp1b]; rfl
           (refine ⟨(2 - (kk + 1)), ?_, kk + 1, rfl, (by omega), ?_, ?_, ?_, ?_, ?_, ?_, ?_⟩; (omega); all_goals first | (simp (disch := omega) only [push_cast, simprocAttr, hSb, hZb, hq, hk1] <;> first | rfl | omega) | omega))
      · obtain ⟨hkb, hgb, hd'b, hl'b, hmb, hxb⟩ := drop_cons hp0b eSpan []
        have hb := hd.hours _ hmb
        repeat' first
          | apply AW.seq | apply AW.region | apply AW.ret | apply AW.block | apply AW.skip | apply AW.exit | apply AW.scope | apply AW.label | apply AWL.nil
          | ((first | (apply W.step cx_ok; decide) | (apply W.gS; rfl; decide) | apply AW.cond); (simp (disch := omega) only [push_cast, simprocAttr, hSb, hZb, hkb, hgb] <;> rfl); all_goals try ((with_reducible intro hI); try first | (cases hI; done) | (simp only [INTS] at hI; try first | (exfalso; omega) | (have hT : True := hI; clear hT hI))))
          | ((apply W.callv cx_ok; decide); (iterate 2 (simp (disch := omega) only [push_cast, simprocAttr, hSb, hZb, hkb, hgb] <;> rfl)); (with_reducible first | exact openR_ok d _ (by omega) (by omega)); try first | rfl | (simp (disch := omega) only [push_cast, simprocAttr, hSb, hZb, hkb, hgb] <;> rfl))
          | ((first | apply W.ret1 | apply W.end1); (iterate 2 (try (simp (disch := omega) only [push_cast, simprocAttr, hSb, hZb, hkb, hgb] <;> rfl))))
        all_goals first
          | (have hq : pickX d t bb (((t / 86400 * 86400) - (kk : Int) * 86400) + xb.hi) = (((t / 86400 * 86400) - (kk : Int) * 86400) + xb.hi) := by unfold pickX; rw [if_pos ⟨by omega, by omega, by omega, by assumption⟩]
             (refine ⟨restb.length, ?_, ib + 1, pickX d t bb (((t / 86400 * 86400) - (kk : Int) * 86400) + xb.hi), restb, rfl, hd'b, hp1b, ?_, ?_, ?_, ?_, ?_, ?_, ?_, ?_⟩; ((simp only [List.length_cons] at *; omega)); all_goals first | (simp (disch := omega) only [push_cast, simprocAttr, hSb, hZb, hgb, hkb, hq] <;> first | rfl | omega) | omega))
          | (have hq : pickX d t bb (((t / 86400 * 86400) - (kk : Int) * 86400) + xb.hi) = bb := by unfold pickX; rw [if_neg (fun hx => by first | omega | (have hx3 := hx.2.2.2; simp_all; done))]
             (refine ⟨restb.length, ?_, ib + 1, pickX d t bb (((t / 86400 * 86400) - (kk : Int) * 86400) + xb.hi), restb, rfl, hd'b, hp1b, ?_, ?_, ?_, ?_, ?_, ?_, ?_, ?_⟩; ((simp only [List.length_cons] at *; omega)); all_goals first | (simp (disch := omega) only [push_cast, simprocAttr, hSb, hZb, hgb, hkb, hq] <;> first | rfl | omega) | omega))
    · have hk1 : ¬ (kk : Int) < 2 := by omega
      have hk2 : kk = 2 := by omega
      repeat' first
        | apply AW.seq | apply AW.region | apply AW.ret | apply AW.block | apply AW.skip | apply AW.exit | apply AW.scope | apply AW.label | apply AWL.nil
        | ((first | (apply W.step cx_ok; decide) | (apply W.gS; rfl; decide) | apply AW.cond); (simp (disch := omega) only [push_cast, simprocAttr, hS, hZ, hk1] <;> rfl); all_goals try ((with_reducible intro hI); try first | (cases hI; done) | (simp only [INTS] at hI; try first | (exfalso; omega) | (have hT : True := hI; clear hT hI))))
        | ((first | apply W.ret1 | apply W.end1); (iterate 2 (try (simp (disch := omega) only [push_cast, simprocAttr, hS, hZ, hk1] <;> rfl))))
      refine AW.loop (fun n s => ∃ (i : Nat) (b : Int) (rest : List Span), n = rest.length ∧ (d.shut.drop i = rest) ∧ (rest.foldl (shutX d t) b = d.shut.foldl (shutX d t) (bestX d t (t / 86400 * 86400) 2)) ∧ 1 ≤ s.nx ∧ s.tm 1 = ai t ∧ s.tm 2 = .ptr 0 0 0 1 ∧ s.tm 6 = ai b ∧ s.tm 12 = ai i ∧ Pg.rowAt s.H (0) = some ({ k := 2, es := [eDoor d], ty := 98 })) (d.shut.length) ⟨0, bestX d t (t / 86400 * 86400) 2, _, rfl, rfl, rfl, ?_, ?_, ?_, ?_, ?_, ?_⟩ ?_
      iterate 6 (first | (simp (disch := omega) only [push_cast, simprocAttr, hS, hZ, hk1, hk2] <;> first | rfl | omega) | omega)
      rintro nc sc ⟨ic, bc, restc, hnc, hp0c, hp1c, hnlc, hSc⟩
      have hZc : (0 : Nat) ≠ sc.nx ∧ sc.nx ≠ (0 : Nat) := by omega
      rcases restc with _ | ⟨xc, restc⟩
      · have hkc := drop_nil hp0c
        repeat' first
          | apply AW.seq | apply AW.region | apply AW.ret | apply AW.block | apply AW.skip | apply AW.exit | apply AW.scope | apply AW.label | apply AWL.nil
          | ((first | (apply W.step cx_ok; decide) | (apply W.gS; rfl; decide) | apply AW.cond); (simp (disch := omega) only [push_cast, simprocAttr, hSc, hZc, hkc] <;> rfl); all_goals try ((with_reducible intro hI); try first | (cases hI; done) | (simp only [INTS] at hI; try first | (exfalso; omega) | (have hT : True := hI; clear hT hI))))
          | ((first | apply W.ret1 | apply W.end1); (iterate 2 (try (simp (disch := omega) only [push_cast, simprocAttr, hSc, hZc, hkc] <;> rfl))))
        all_goals (show _ = _; rw [← hp1c]; rfl)
      · obtain ⟨hkc, hgc, hd'c, hl'c, hmc, hxc⟩ := drop_cons hp0c eSpan []
        have hb := hd.shut _ hmc
        by_cases hneg : xc.lo - 1 < 0
        · have hsx : shutX d t bc xc = pickX d t bc (xc.lo - 1) := by unfold shutX; rw [if_pos hneg]
          repeat' first
            | apply AW.seq | apply AW.region | apply AW.ret | apply AW.block | apply AW.skip | apply AW.exit | apply AW.scope | apply AW.label | apply AWL.nil
            | ((first | (apply W.step cx_ok; decide) | (apply W.gS; rfl; decide) | apply AW.cond); (simp (disch := omega) only [push_cast, simprocAttr, hSc, hZc, hkc, hgc, hneg] <;> rfl); all_goals try ((with_reducible intro hI); try first | (cases hI; done) | (simp only [INTS] at hI; try first | (exfalso; omega) | (have hT : True := hI; clear hT hI))))
            | ((apply W.callv cx_ok; decide); (iterate 2 (simp (disch := omega) only [push_cast, simprocAttr, hSc, hZc, hkc, hgc, hneg] <;> rfl)); (with_reducible first | exact openR_ok d _ (by omega) (by omega)); try first | rfl | (simp (disch := omega) only [push_cast, simprocAttr, hSc, hZc, hkc, hgc, hneg] <;> rfl))
            | ((first | apply W.ret1 | apply W.end1); (iterate 2 (try (simp (disch := omega) only [push_cast, simprocAttr, hSc, hZc, hkc, hgc, hneg] <;> rfl))))
          all_goals
            (have hq : pickX d t bc (xc.lo - 1) = bc := by unfold pickX; rw [if_neg (by omega)]
             rw [List.foldl_cons, hsx, hq] at hp1c
             (refine ⟨restc.length, ?_, ic + 1, bc, restc, rfl, hd'c, hp1c, ?_, ?_, ?_, ?_, ?_, ?_⟩; ((simp only [List.length_cons] at *; omega)); all_goals first | (simp (disch := omega) only [push_cast, simprocAttr, hSc, hZc, hgc, hkc, hneg] <;> first | rfl | omega) | omega))
        · have hsx : shutX d t bc xc = d.hours.foldl (fun b y => innerX d t ((xc.lo - 1) / 86400 * 86400 - 86400) y b 2) (pickX d t bc (xc.lo - 1)) := by
            unfold shutX; rw [if_neg hneg]; congr 1; funext b y; rw [innerX_two]
          repeat' first
            | apply AW.seq | apply AW.region | apply AW.ret | apply AW.block | apply AW.skip | apply AW.exit | apply AW.scope | apply AW.label | apply AWL.nil
            | ((first | (apply W.step cx_ok; decide) | (apply W.gS; rfl; decide) | apply AW.cond); (simp (disch := omega) only [push_cast, simprocAttr, hSc, hZc, hkc, hgc, hneg] <;> rfl); all_goals try ((with_reducible intro hI); try first | (cases hI; done) | (simp only [INTS] at hI; try first | (exfalso; omega) | (have hT : True := hI; clear hT hI))))
            | ((apply W.callv cx_ok; decide); (iterate 2 (simp (disch := omega) only [push_cast, simprocAttr, hSc, hZc, hkc, hgc, hneg] <;> rfl)); (with_reducible first | exact openR_ok d _ (by omega) (by omega)); try first | rfl | (simp (disch := omega) only [push_cast, simprocAttr, hSc, hZc, hkc, hgc, hneg] <;> rfl))
            | ((first | apply W.ret1 | apply W.end1); (iterate 2 (try (simp (disch := omega) only [push_cast, simprocAttr, hSc, hZc, hkc, hgc, hneg] <;> rfl))))
          all_goals
            (obtain ⟨bq, hq⟩ : ∃ bq, pickX d t bc (xc.lo - 1) = bq := ⟨_, rfl⟩
             have hq0 := hq
             unfold pickX at hq0
             first | rw [if_pos ⟨by omega, by omega, by omega, by assumption⟩] at hq0 | rw [if_neg (fun hx => by first | omega | (have hx3 := hx.2.2.2; simp_all; done))] at hq0
             refine AW.loop (fun n s => ∃ (k : Nat) (b : Int) (rest : List Span), n = rest.length ∧ (d.hours.drop k = rest) ∧ (rest.foldl (fun b y => innerX d t ((xc.lo - 1) / 86400 * 86400 - 86400) y b 2) b = shutX d t bc xc) ∧ 1 ≤ s.nx ∧ s.tm 1 = ai t ∧ s.tm 2 = .ptr 0 0 0 1 ∧ s.tm 6 = ai b ∧ s.tm 12 = ai ic ∧ s.tm 15 = ai ((xc.lo - 1) / 86400 * 86400 - 86400) ∧ s.tm 16 = ai k ∧ Pg.rowAt s.H (0) = some ({ k := 2, es := [eDoor d], ty := 98 })) (d.hours.length) ⟨0, bq, _, rfl, rfl, (by rw [hsx, hq]), ?_, ?_, ?_, ?_, ?_, ?_, ?_, ?_⟩ ?_
             iterate 8 (first | (simp (disch := omega) only [push_cast, simprocAttr, hSc, hZc, hkc, hgc, hneg, hq0] <;> first | rfl | omega) | omega)
             rintro nd sd ⟨kd, bd, restd, hnd, hp0d, hp1d, hnld, hSd⟩
             have hZd : (0 : Nat) ≠ sd.nx ∧ sd.nx ≠ (0 : Nat) := by omega
             rcases restd with _ | ⟨xd, restd⟩
             · have hkd := drop_nil hp0d
               repeat' first
                 | apply AW.seq | apply AW.region | apply AW.ret | apply AW.block | apply AW.skip | apply AW.exit | apply AW.scope | apply AW.label | apply AWL.nil
                 | ((first | (apply W.step cx_ok; decide) | (apply W.gS; rfl; decide) | apply AW.cond); (simp (disch := omega) only [push_cast, simprocAttr, hSd, hZd, hkd] <;> rfl); all_goals try ((with_reducible intro hI); try first | (cases hI; done) | (simp only [INTS] at hI; try first | (exfalso; omega) | (have hT : True := hI; clear hT hI))))
                 | ((first | apply W.ret1 | apply W.end1); (iterate 2 (try (simp (disch := omega) only [push_cast, simprocAttr, hSd, hZd, hkd] <;> rfl))))
               all_goals
                 (have hq2 : shutX d t bc xc = bd := by rw [← hp1d]; rfl
                  (refine ⟨restc.length, ?_, ic + 1, bd, restc, rfl, hd'c, (by rw [← hp1c, List.foldl_cons, hq2]), ?_, ?_, ?_, ?_, ?_, ?_⟩; ((simp only [List.length_cons] at *; omega)); all_goals first | (simp (disch := omega) only [push_cast, simprocAttr, hSd, hZd] <;> first | rfl | omega) | omega))
             · obtain ⟨hkd, hgd, hd'd, hl'd, hmd, hxd⟩ := drop_cons hp0d eSpan []
               have hb2 := hd.hours _ hmd
               repeat' first
                 | apply AW.seq | apply AW.region | apply AW.ret | apply AW.block | apply AW.skip | apply AW.exit | apply AW.scope | apply AW.label | apply AWL.nil
                 | ((first | (apply W.step cx_ok; decide) | (apply W.gS; rfl; decide) | apply AW.cond); (simp (disch := omega) only [push_cast, simprocAttr, hSd, hZd, hkd, hgd] <;> rfl); all_goals try ((with_reducible intro hI); try first | (cases hI; done) | (simp only [INTS] at hI; try first | (exfalso; omega) | (have hT : True := hI; clear hT hI))))
                 | ((first | apply W.ret1 | apply W.end1); (iterate 2 (try (simp (disch := omega) only [push_cast, simprocAttr, hSd, hZd, hkd, hgd] <;> rfl))))
               refine AW.loop (fun n s => ∃ (j : Nat), n = 2 - j ∧ (j ≤ 2) ∧ 1 ≤ s.nx ∧ s.tm 1 = ai t ∧ s.tm 2 = .ptr 0 0 0 1 ∧ s.tm 6 = ai (innerX d t ((xc.lo - 1) / 86400 * 86400 - 86400) xd bd j) ∧ s.tm 12 = ai ic ∧ s.tm 15 = ai ((xc.lo - 1) / 86400 * 86400 - 86400) ∧ s.tm 16 = ai kd ∧ s.tm 17 = ai j ∧ Pg.rowAt s.H (0) = some ({ k := 2, es := [eDoor d], ty := 98 })) (2) ⟨0, rfl, (by omega), ?_, ?_, ?_, ?_, ?_, ?_, ?_, ?_, ?_⟩ ?_
               iterate 9 (first | (simp (disch := omega) only [push_cast, simprocAttr, hSd, hZd, hkd, hgd, innerX] <;> first | rfl | omega) | omega)
               rintro ne se ⟨je, hne, hp0e, hnle, hSe⟩
               have hZe : (0 : Nat) ≠ se.nx ∧ se.nx ≠ (0 : Nat) := by omega
               by_cases hje : je < 2
               · have hj1 : (je : Int) < 2 := by omega
                 repeat' first
                   | apply AW.seq | apply AW.region | apply AW.ret | apply AW.block | apply AW.skip | apply AW.exit | apply AW.scope | apply AW.label | apply AWL.nil
                   | ((first | (apply W.step cx_ok; decide) | (apply W.gS; rfl; decide) | apply AW.cond); (simp (disch := omega) only [push_cast, simprocAttr, hSe, hZe, hj1, hkd, hgd] <;> rfl); all_goals try ((with_reducible intro hI); try first | (cases hI; done) | (simp only [INTS] at hI; try first | (exfalso; omega) | (have hT : True := hI; clear hT hI))))
                   | ((apply W.callv cx_ok; decide); (iterate 2 (simp (disch := omega) only [push_cast, simprocAttr, hSe, hZe, hj1, hkd, hgd] <;> rfl)); (with_reducible first | exact openR_ok d _ (by omega) (by omega)); try first | rfl | (simp (disch := omega) only [push_cast, simprocAttr, hSe, hZe, hj1, hkd, hgd] <;> rfl))
                   | ((first | apply W.ret1 | apply W.end1); (iterate 2 (try (simp (disch := omega) only [push_cast, simprocAttr, hSe, hZe, hj1, hkd, hgd] <;> rfl))))
                 all_goals first
                   | (have hq : pickX d t (innerX d t ((xc.lo - 1) / 86400 * 86400 - 86400) xd bd je) (((xc.lo - 1) / 86400 * 86400 - 86400) + (je : Int) * 86400 + xd.hi) = (((xc.lo - 1) / 86400 * 86400 - 86400) + (je : Int) * 86400 + xd.hi) := by unfold pickX; rw [if_pos ⟨by omega, by omega, by omega, by assumption⟩]
                      (refine ⟨(2 - (je + 1)), ?_, je + 1, rfl, (by omega), ?_, ?_, ?_, ?_, ?_, ?_, ?_, ?_, ?_⟩; (omega); all_goals first | (simp (disch := omega) only [push_cast, simprocAttr, hSe, hZe, hj1, innerX, hq] <;> first | rfl | omega) | omega))
                   | (have hq : pickX d t (innerX d t ((xc.lo - 1) / 86400 * 86400 - 86400) xd bd je) (((xc.lo - 1) / 86400 * 86400 - 86400) + (je : Int) * 86400 + xd.hi) = (innerX d t ((xc.lo - 1) / 86400 * 86400 - 86400) xd bd je) := by unfold pickX; rw [if_neg (fun hx => by first | omega | (have hx3 := hx.2.2.2; simp_all; done))]
                      (refine ⟨(2 - (je + 1)), ?_, je + 1, rfl, (by omega), ?_, ?_, ?_, ?_, ?_, ?_, ?_, ?_, ?_⟩; (omega); all_goals first | (simp (disch := omega) only [push_cast, simprocAttr, hSe, hZe, hj1, innerX, hq] <;> first | rfl | omega) | omega))
               · have hj1 : ¬ (je : Int) < 2 := by omega
                 have hj2 : je = 2 := by omega
                 repeat' first
                   | apply AW.seq | apply AW.region | apply AW.ret | apply AW.block | apply AW.skip | apply AW.exit | apply AW.scope | apply AW.label | apply AWL.nil
                   | ((first | (apply W.step cx_ok; decide) | (apply W.gS; rfl; decide) | apply AW.cond); (simp (disch := omega) only [push_cast, simprocAttr, hSe, hZe, hj1] <;> rfl); all_goals try ((with_reducible intro hI); try first | (cases hI; done) | (simp only [INTS] at hI; try first | (exfalso; omega) | (have hT : True := hI; clear hT hI))))
                   | ((first | apply W.ret1 | apply W.end1); (iterate 2 (try (simp (disch := omega) only [push_cast, simprocAttr, hSe, hZe, hj1] <;> rfl))))
                 all_goals
                   (rw [List.foldl_cons] at hp1d
                    (refine ⟨restd.length, ?_, kd + 1, innerX d t ((xc.lo - 1) / 86400 * 86400 - 86400) xd bd je, restd, rfl, hd'd, (by rw [hj2]; exact hp1d), ?_, ?_, ?_, ?_, ?_, ?_, ?_, ?_⟩; ((simp only [List.length_cons] at *; omega)); all_goals first | (simp (disch := omega) only [push_cast, simprocAttr, hSe, hZe, hgd, hkd, hj1] <;> first | rfl | omega) | omega))
            )

end Go.Proofs.Hs

namespace Go.Proofs.Hs
open Go Go.Pg Go.Proofs

theorem enterR_ok (h : House) (g : Gate) (t : Int) (hv : h.V) (hg : g.OK h) (h0 : 0 ≤ t) (h1 : t ≤ 1073741823) : OKv cx 87 [.agg (eHouse h), .agg (eGateR g), ai t] (ai (enter h g t)) := by
  have hb := nextAt_ge hv hg h0 (by omega)
  have hs := hg.secs
  by_cases hdn : 0 ≤ g.door
  · have hdl := hg.door.2
    have hdv := hv.door hdn hdl
    have hdg : (h.doors.map eDoor).getD g.door.toNat [] = eDoor (h.door g.door) := getD_map eDoor h.doors _ [] ⟨[], []⟩ (by omega)
    have hn : h.nextAt g t = nextR (h.door g.door) t := by rw [nextR_is hdv h0 h1]; exact if_pos hdn
    rw [hn] at hb
    refine OKat.of_body (rs := [6]) Tryd.func87 rfl (by decide +kernel) rfl (by simp [Tryd.ntmps87]) ?_
    simp only [Tryd.ntmps87]
    repeat' first
      | apply AW.seq | apply AW.region | apply AW.ret | apply AW.block | apply AW.skip | apply AW.exit | apply AW.scope | apply AW.label | apply AWL.nil
      | ((first | (apply W.step cx_ok; decide) | apply AW.cond); (simp (disch := omega) only [push_cast, simprocAttr, hdn, hdl, hdg] <;> rfl); all_goals try ((with_reducible intro hI); try first | (cases hI; done) | (simp only [INTS] at hI; try first | (exfalso; omega) | (have hT : True := hI; clear hT hI))))
      | ((apply W.callv cx_ok; decide); (iterate 2 (simp (disch := omega) only [push_cast, simprocAttr, hdn, hdl, hdg] <;> rfl)); (with_reducible first | exact nextR_ok _ _ hdv.ok h0 (by omega)); try first | rfl | (simp (disch := omega) only [push_cast, simprocAttr, hdn, hdl, hdg] <;> rfl))
      | ((first | apply W.ret1 | apply W.end1); (iterate 2 (try (simp (disch := omega) only [push_cast, simprocAttr, hdn, hdl, hdg] <;> rfl))))
    all_goals (show _ = _; unfold enter; rw [hn]; refine congrArg (fun x => AV.v (Value.int .i64 x)) ?_; split <;> omega)
  · have hn : h.nextAt g t = t := if_neg hdn
    refine OKat.of_body (rs := [6]) Tryd.func87 rfl (by decide +kernel) rfl (by simp [Tryd.ntmps87]) ?_
    simp only [Tryd.ntmps87]
    repeat' first
      | apply AW.seq | apply AW.region | apply AW.ret | apply AW.block | apply AW.skip | apply AW.exit | apply AW.scope | apply AW.label | apply AWL.nil
      | ((first | (apply W.step cx_ok; decide) | apply AW.cond); (simp (disch := omega) only [push_cast, simprocAttr, hdn] <;> rfl); all_goals try ((with_reducible intro hI); try first | (cases hI; done) | (simp only [INTS] at hI; try first | (exfalso; omega) | (have hT : True := hI; clear hT hI))))
      | ((first | apply W.ret1 | apply W.end1); (iterate 2 (try (simp (disch := omega) only [push_cast, simprocAttr, hdn] <;> rfl))))
    all_goals (show _ = _; unfold enter; rw [hn]; refine congrArg (fun x => AV.v (Value.int .i64 x)) ?_; split <;> omega)

theorem departR_ok (h : House) (g : Gate) (t : Int) (hv : h.V) (hg : g.OK h) (h0 : 0 ≤ t) (h1 : t ≤ 1073741823) : OKv cx 96 [.agg (eHouse h), .agg (eGateR g), ai t] (ai (depart h g t)) := by
  have hs := hg.secs
  by_cases hdn : 0 ≤ g.door
  · have hdl := hg.door.2
    have hdv := hv.door hdn hdl
    have hdg : (h.doors.map eDoor).getD g.door.toNat [] = eDoor (h.door g.door) := getD_map eDoor h.doors _ [] ⟨[], []⟩ (by omega)
    by_cases hneg : t - g.secs < 0
    ·
      refine OKat.of_body (rs := [6]) Tryd.func96 rfl (by decide +kernel) rfl (by simp [Tryd.ntmps96]) ?_
      simp only [Tryd.ntmps96]
      repeat' first
        | apply AW.seq | apply AW.region | apply AW.ret | apply AW.block | apply AW.skip | apply AW.exit | apply AW.scope | apply AW.label | apply AWL.nil
        | ((first | (apply W.step cx_ok; decide) | apply AW.cond); (simp (disch := omega) only [push_cast, simprocAttr, hdn, hdl, hdg, hneg] <;> rfl); all_goals try ((with_reducible intro hI); try first | (cases hI; done) | (simp only [INTS] at hI; try first | (exfalso; omega) | (have hT : True := hI; clear hT hI))))
        | ((first | apply W.ret1 | apply W.end1); (iterate 2 (try (simp (disch := omega) only [push_cast, simprocAttr, hdn, hdl, hdg, hneg] <;> rfl))))
      all_goals (show _ = _; unfold depart; rw [if_pos hneg])
    · have hn : h.lastAt g (t - g.secs) = lastR (h.door g.door) (t - g.secs) := by rw [lastR_is hdv (by omega) (by omega)]; exact if_pos hdn
      refine OKat.of_body (rs := [6]) Tryd.func96 rfl (by decide +kernel) rfl (by simp [Tryd.ntmps96]) ?_
      simp only [Tryd.ntmps96]
      repeat' first
        | apply AW.seq | apply AW.region | apply AW.ret | apply AW.block | apply AW.skip | apply AW.exit | apply AW.scope | apply AW.label | apply AWL.nil
        | ((first | (apply W.step cx_ok; decide) | apply AW.cond); (simp (disch := omega) only [push_cast, simprocAttr, hdn, hdl, hdg, hneg] <;> rfl); all_goals try ((with_reducible intro hI); try first | (cases hI; done) | (simp only [INTS] at hI; try first | (exfalso; omega) | (have hT : True := hI; clear hT hI))))
        | ((apply W.callv cx_ok; decide); (iterate 2 (simp (disch := omega) only [push_cast, simprocAttr, hdn, hdl, hdg, hneg] <;> rfl)); (with_reducible first | exact lastR_ok _ _ hdv.ok (by omega) (by omega)); try first | rfl | (simp (disch := omega) only [push_cast, simprocAttr, hdn, hdl, hdg, hneg] <;> rfl))
        | ((first | apply W.ret1 | apply W.end1); (iterate 2 (try (simp (disch := omega) only [push_cast, simprocAttr, hdn, hdl, hdg, hneg] <;> rfl))))
      all_goals first
        | (show _ = _; unfold depart; rw [if_neg hneg, hn]; done)
        | (exfalso; omega)
  · have hn : h.lastAt g (t - g.secs) = t - g.secs := if_neg hdn
    refine OKat.of_body (rs := [6]) Tryd.func96 rfl (by decide +kernel) rfl (by simp [Tryd.ntmps96]) ?_
    simp only [Tryd.ntmps96]
    repeat' first
      | apply AW.seq | apply AW.region | apply AW.ret | apply AW.block | apply AW.skip | apply AW.exit | apply AW.scope | apply AW.label | apply AWL.nil
      | ((first | (apply W.step cx_ok; decide) | apply AW.cond); (simp (disch := omega) only [push_cast, simprocAttr, hdn] <;> rfl); all_goals try ((with_reducible intro hI); try first | (cases hI; done) | (simp only [INTS] at hI; try first | (exfalso; omega) | (have hT : True := hI; clear hT hI))))
      | ((first | apply W.ret1 | apply W.end1); (iterate 2 (try (simp (disch := omega) only [push_cast, simprocAttr, hdn] <;> rfl))))
    all_goals first
      | (show _ = _; unfold depart; rw [hn]; first | rw [if_pos (by omega)] | rw [if_neg (by omega)])
      | (exfalso; omega)

theorem pure_gateR (l : List Gate) : (l.map eGateR).all pureL = true := pure_map eGateR (fun _ => rfl) l
theorem GatesR_ok (h : House) (hw : h.ways.length ≤ 1048576) : OKv cx 86 [.agg (eHouse h)] (.lst ((gates h).map eGateR)) := by
  refine OKat.of_body (rs := [2]) Tryd.func86 rfl (by decide +kernel) rfl (by simp [Tryd.ntmps86]) ?_
  simp only [Tryd.ntmps86]
  repeat' first
    | apply AW.seq | apply AW.region | apply AW.ret | apply AW.block | apply AW.skip | apply AW.exit | apply AW.scope | apply AW.label | apply AWL.nil
    | ((first | (apply W.step cx_ok; decide) | apply W.store cx_ok | apply AW.cond); (simp (disch := omega) only [push_cast, simprocAttr] <;> rfl); all_goals try ((with_reducible intro hI); try first | (cases hI; done) | (simp only [INTS] at hI; try first | (exfalso; omega) | (have hT : True := hI; clear hT hI))))
    | ((first | apply W.ret1 | apply W.end1); (iterate 2 (try (simp (disch := omega) only [push_cast, simprocAttr] <;> rfl))))
  refine AW.adopt 3 5 121 ?_ ?_
  · simp (disch := omega) only [push_cast, simprocAttr]
  refine AW.loop (fun n s => ∃ (k : Nat) (out : List Gate) (rest : List Way), n = rest.length ∧ (h.ways.drop k = rest) ∧ (out ++ gatesL k rest = gates h) ∧ (out.length ≤ 2 * k) ∧ 2 ≤ s.nx ∧ s.tm 1 = .ptr 0 0 0 1 ∧ s.tm 3 = .ref 1 0 out.length ∧ s.tm 4 = ai k ∧ Pg.rowAt s.H (0) = some ({ k := 3, es := [eHouse h], ty := 26 }) ∧ Pg.rowAt s.H (1) = some ({ k := 5, es := out.map eGateR, ty := 121, lo := out.length })) (h.ways.length) ⟨0, [], _, rfl, rfl, rfl, Nat.zero_le _, ?_, ?_, ?_, ?_, ?_, ?_⟩ ?_
  iterate 6 (first | (simp (disch := omega) only [push_cast, simprocAttr] <;> first | rfl | omega) | omega)
  rintro n s ⟨k, out, rest, hn, hp0, hp1, hp2, hnl, hS⟩
  have hZ : (0 : Nat) ≠ s.nx ∧ s.nx ≠ (0 : Nat) ∧ (1 : Nat) ≠ s.nx ∧ s.nx ≠ (1 : Nat) := by omega
  rcases rest with _ | ⟨x, rest⟩
  · have hk := drop_nil hp0
    repeat' first
      | apply AW.seq | apply AW.region | apply AW.ret | apply AW.block | apply AW.skip | apply AW.exit | apply AW.scope | apply AW.label | apply AWL.nil
      | ((first | (apply W.step cx_ok; decide) | apply W.store cx_ok | apply AW.cond); (simp (disch := omega) only [push_cast, simprocAttr, hS, hZ, hk, List.length_cons, List.length_nil, pure_gateR, List.take_of_length_le] <;> rfl); all_goals try ((with_reducible intro hI); try first | (cases hI; done) | (simp only [INTS] at hI; try first | (exfalso; omega) | (have hT : True := hI; clear hT hI))))
      | (apply W.append cx_ok; decide; rfl; rfl; rfl; decide; (iterate 3 (simp (disch := omega) only [push_cast, simprocAttr, hS, hZ, hk, List.length_cons, List.length_nil, pure_gateR, List.take_of_length_le] <;> rfl)); simp; (rfl); ((try dsimp only); (try simp only [List.length_map, List.length_append, List.length_cons, List.length_nil]); omega); ((try dsimp only); (try simp only [List.length_map, List.length_append, List.length_cons, List.length_nil]); omega))
      | ((first | apply W.ret1 | apply W.end1); (iterate 2 (try (simp (disch := omega) only [push_cast, simprocAttr, hS, hZ, hk, List.length_cons, List.length_nil, pure_gateR, List.take_of_length_le] <;> rfl))))
    have ho : out = gates h := by simpa [gatesL] using hp1
    all_goals (show _ = _; rw [ho])
  · obtain ⟨hk, hg, hd', hl', hm, hx⟩ := drop_cons hp0 eWay []
    repeat' first
      | apply AW.seq | apply AW.region | apply AW.ret | apply AW.block | apply AW.skip | apply AW.exit | apply AW.scope | apply AW.label | apply AWL.nil
      | ((first | (apply W.step cx_ok; decide) | apply W.store cx_ok | apply AW.cond); (simp (disch := omega) only [push_cast, simprocAttr, hS, hZ, hk, hg, List.length_cons, List.length_nil, pure_gateR, List.take_of_length_le] <;> rfl); all_goals try ((with_reducible intro hI); try first | (cases hI; done) | (simp only [INTS] at hI; try first | (exfalso; omega) | (have hT : True := hI; clear hT hI))))
      | (apply W.append cx_ok; decide; rfl; rfl; rfl; decide; (iterate 3 (simp (disch := omega) only [push_cast, simprocAttr, hS, hZ, hk, hg, List.length_cons, List.length_nil, pure_gateR, List.take_of_length_le] <;> rfl)); simp; (rfl); ((try dsimp only); (try simp only [List.length_map, List.length_append, List.length_cons, List.length_nil]); omega); ((try dsimp only); (try simp only [List.length_map, List.length_append, List.length_cons, List.length_nil]); omega))
      | ((first | apply W.ret1 | apply W.end1); (iterate 2 (try (simp (disch := omega) only [push_cast, simprocAttr, hS, hZ, hk, hg, List.length_cons, List.length_nil, pure_gateR, List.take_of_length_le] <;> rfl))))
    all_goals first
      | (rw [gatesL, if_pos (by omega)] at hp1
         (refine ⟨rest.length, ?_, k + 1, out ++ [⟨(k : Int), false, x.a, x.b, x.secs, x.door⟩, ⟨(k : Int), true, x.b, x.a, x.back, x.door⟩], rest, rfl, hd', (by simpa using hp1), (by simp; omega), ?_, ?_, ?_, ?_, ?_, ?_⟩; ((simp only [List.length_cons] at *; omega)); all_goals first | (simp (disch := omega) only [push_cast, simprocAttr, hS, hZ, hg, hk, List.length_cons, List.length_nil] <;> first | rfl | omega) | omega))
      | (rw [gatesL, if_neg (by omega)] at hp1
         (refine ⟨rest.length, ?_, k + 1, out ++ [⟨(k : Int), false, x.a, x.b, x.secs, x.door⟩], rest, rfl, hd', (by simpa using hp1), (by simp; omega), ?_, ?_, ?_, ?_, ?_, ?_⟩; ((simp only [List.length_cons] at *; omega)); all_goals first | (simp (disch := omega) only [push_cast, simprocAttr, hS, hZ, hg, hk, List.length_cons, List.length_nil] <;> first | rfl | omega) | omega))

def twoE (h : House) (a ta b tb : Int) : Int := if roomE h a ta ≠ 0 then roomE h a ta else roomE h b tb
theorem Two_ok (h : House) (a ta b tb : Int) (hfit : h.Fit) : OKv cx 53 [.agg (eHouse h), ai a, ai ta, ai b, ai tb] (ai (twoE h a ta b tb)) := by
  refine OKat.of_body (rs := [10]) Tryd.func53 rfl (by decide +kernel) rfl (by simp [Tryd.ntmps53]) ?_
  simp only [Tryd.ntmps53]
  repeat' first
    | apply AW.seq | apply AW.region | apply AW.ret | apply AW.block | apply AW.skip | apply AW.exit | apply AW.scope | apply AW.label | apply AWL.nil
    | ((first | (apply W.step cx_ok; decide) | apply AW.cond); (simp (disch := omega) only [push_cast, simprocAttr] <;> rfl); all_goals try ((with_reducible intro hI); try first | (cases hI; done) | (simp only [INTS] at hI; try first | (exfalso; omega) | (have hT : True := hI; clear hT hI))))
    | ((apply W.callv cx_ok; decide); (iterate 2 (simp (disch := omega) only [push_cast, simprocAttr] <;> rfl)); (with_reducible first | exact room_ok _ _ _ hfit); try first | rfl | (simp (disch := omega) only [push_cast, simprocAttr] <;> rfl))
    | ((first | apply W.ret1 | apply W.end1); (iterate 2 (try (simp (disch := omega) only [push_cast, simprocAttr] <;> rfl))))
  all_goals (show _ = _; unfold twoE; first | (rw [if_pos (by assumption)]; done) | (rw [if_neg (by simp [*])]; done))

end Go.Proofs.Hs
