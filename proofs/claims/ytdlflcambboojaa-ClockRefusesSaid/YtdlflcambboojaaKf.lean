/-
  Contracts of functions, proved by going through their code. No conditions.
-/
import Derived.Test.YtdlflcambboojaaKa
import Derived.Test.YtdlflcambboojaaKe
set_option maxHeartbeats 8000000
set_option linter.unusedSimpArgs false
set_option linter.unusedVariables false
set_option maxRecDepth 10000
namespace Go.Proofs.Ks
open Go Go.Pg Go.Proofs

theorem SameInts_ok (a b : List Int) (ha : a.length ≤ 1099511627776) (hb : b.length ≤ 1099511627776) : OKv cx 51 [lInt a, lInt b] (ab (decide (a = b))) := by
  by_cases hl : a.length = b.length
  · have hlI : ((a.length : Int) = (b.length : Int)) = True := eq_true (by omega)
    refine OKat.of_body (rs := [4]) Try.func51 rfl (by decide +kernel) rfl (by simp [Try.ntmps51]) ?_
    simp only [Try.ntmps51]
    repeat' first
      | apply AW.seq | apply AW.region | apply AW.ret | apply AW.block | apply AW.skip | apply AW.exit | apply AW.scope | apply AW.label | apply AWL.nil | apply D.nil
      | refine W.draw cx_mixed (by decide +kernel) ?_
      | ((first | (apply W.step cx_ok; decide) | (apply D.step cx_ok; decide; decide) | apply AW.cond); (simp (disch := omega) only [push_cast, simprocAttr, hlI] <;> rfl); all_goals try ((with_reducible intro hI); try first | (cases hI; done) | (simp only [INTS, zL] at hI; try first | (exfalso; omega) | (have hT : True := hI; clear hT hI))))
      | ((first | apply W.ret1 | apply W.end1); (iterate 2 (try (simp (disch := omega) only [push_cast, simprocAttr, hlI] <;> rfl))))

    refine AW.loop (fun n s => ∃ (k : Nat), n = a.length - k ∧ (k ≤ a.length) ∧ (a.take k = b.take k) ∧ s.tm 0 = lInt a ∧ s.tm 1 = lInt b ∧ s.tm 5 = ai k) (a.length) ⟨0, rfl, (Nat.zero_le _), rfl, ?_, ?_, ?_⟩ ?_
    iterate 3 (first | (simp (disch := omega) only [push_cast, simprocAttr] <;> first | rfl | omega) | omega)
    rintro n s ⟨k, hn, hp0, hp1, hS⟩
    by_cases hk : k < a.length
    · have hkI : (k : Int) < (a.length : Int) := by omega
      have hkB : (k : Int) < (b.length : Int) := by omega
      have hkb : k < b.length := by omega
      obtain ⟨x, hx⟩ : ∃ x, a[k]? = some x := ⟨_, List.getElem?_eq_getElem hk⟩
      obtain ⟨y, hy⟩ : ∃ y, b[k]? = some y := ⟨_, List.getElem?_eq_getElem hkb⟩
      have gx : (a.map eInt)[k]? = some (eInt x) := by rw [List.getElem?_map, hx]; rfl
      have gy : (b.map eInt)[k]? = some (eInt y) := by rw [List.getElem?_map, hy]; rfl
      have dx : (a.map eInt).getD k [] = eInt x := by rw [List.getD_eq_getElem?_getD, gx]; rfl
      have dy : (b.map eInt).getD k [] = eInt y := by rw [List.getD_eq_getElem?_getD, gy]; rfl
      by_cases hxy : x = y
      · have hxT : (x = y) = True := eq_true hxy
        repeat' first
          | apply AW.seq | apply AW.region | apply AW.ret | apply AW.block | apply AW.skip | apply AW.exit | apply AW.scope | apply AW.label | apply AWL.nil | apply D.nil
          | refine W.draw cx_mixed (by decide +kernel) ?_
          | ((first | (apply W.step cx_ok; decide) | (apply D.step cx_ok; decide; decide) | apply AW.cond); (simp (disch := omega) only [push_cast, simprocAttr, hS, hlI, hkI, hkB, gx, gy, dx, dy, hk, hkb, hxT] <;> rfl); all_goals try ((with_reducible intro hI); try first | (cases hI; done) | (simp only [INTS, zL] at hI; try first | (exfalso; omega) | (have hT : True := hI; clear hT hI))))
          | ((first | apply W.ret1 | apply W.end1); (iterate 2 (try (simp (disch := omega) only [push_cast, simprocAttr, hS, hlI, hkI, hkB, gx, gy, dx, dy, hk, hkb, hxT] <;> rfl))))

        all_goals (refine ⟨a.length - (k + 1), ?_, k + 1, rfl, (by omega), (by rw [List.take_add_one, List.take_add_one, hp1, hx, hy]; rw [hxy]), ?_, ?_, ?_⟩; (omega); all_goals first | (simp (disch := omega) only [push_cast, simprocAttr, hS, hlI, hkI, hkB, gx, gy, dx, dy, hk, hkb, hxT] <;> first | rfl | omega) | omega)
      · have hne : decide (a = b) = false := decide_eq_false fun e => by subst e; rw [hx] at hy; injection hy with hy; exact hxy hy
        rw [hne]
        have hxF : (x = y) = False := eq_false hxy
        repeat' first
          | apply AW.seq | apply AW.region | apply AW.ret | apply AW.block | apply AW.skip | apply AW.exit | apply AW.scope | apply AW.label | apply AWL.nil | apply D.nil
          | refine W.draw cx_mixed (by decide +kernel) ?_
          | ((first | (apply W.step cx_ok; decide) | (apply D.step cx_ok; decide; decide) | apply AW.cond); (simp (disch := omega) only [push_cast, simprocAttr, hS, hlI, hkI, hkB, gx, gy, dx, dy, hk, hkb, hxF] <;> rfl); all_goals try ((with_reducible intro hI); try first | (cases hI; done) | (simp only [INTS, zL] at hI; try first | (exfalso; omega) | (have hT : True := hI; clear hT hI))))
          | ((first | apply W.ret1 | apply W.end1); (iterate 2 (try (simp (disch := omega) only [push_cast, simprocAttr, hS, hlI, hkI, hkB, gx, gy, dx, dy, hk, hkb, hxF] <;> rfl))))

        all_goals (show _ = _; rfl)
    · have hkI : ¬ (k : Int) < (a.length : Int) := by omega
      have he : decide (a = b) = true := decide_eq_true (by rw [List.take_of_length_le (by omega), List.take_of_length_le (by omega)] at hp1; exact hp1)
      rw [he]
      repeat' first
        | apply AW.seq | apply AW.region | apply AW.ret | apply AW.block | apply AW.skip | apply AW.exit | apply AW.scope | apply AW.label | apply AWL.nil | apply D.nil
        | refine W.draw cx_mixed (by decide +kernel) ?_
        | ((first | (apply W.step cx_ok; decide) | (apply D.step cx_ok; decide; decide) | apply AW.cond); (simp (disch := omega) only [push_cast, simprocAttr, hS, hlI, hkI] <;> rfl); all_goals try ((with_reducible intro hI); try first | (cases hI; done) | (simp only [INTS, zL] at hI; try first | (exfalso; omega) | (have hT : True := hI; clear hT hI))))
        | ((first | apply W.ret1 | apply W.end1); (iterate 2 (try (simp (disch := omega) only [push_cast, simprocAttr, hS, hlI, hkI] <;> rfl))))

      all_goals (show _ = _; rfl)
  · have hlF : ((a.length : Int) = (b.length : Int)) = False := eq_false (by omega)
    have hne : decide (a = b) = false := decide_eq_false fun e => hl (by rw [e])
    rw [hne]
    refine OKat.of_body (rs := [4]) Try.func51 rfl (by decide +kernel) rfl (by simp [Try.ntmps51]) ?_
    simp only [Try.ntmps51]
    repeat' first
      | apply AW.seq | apply AW.region | apply AW.ret | apply AW.block | apply AW.skip | apply AW.exit | apply AW.scope | apply AW.label | apply AWL.nil | apply D.nil
      | refine W.draw cx_mixed (by decide +kernel) ?_
      | ((first | (apply W.step cx_ok; decide) | (apply D.step cx_ok; decide; decide) | apply AW.cond); (simp (disch := omega) only [push_cast, simprocAttr, hlF] <;> rfl); all_goals try ((with_reducible intro hI); try first | (cases hI; done) | (simp only [INTS, zL] at hI; try first | (exfalso; omega) | (have hT : True := hI; clear hT hI))))
      | ((first | apply W.ret1 | apply W.end1); (iterate 2 (try (simp (disch := omega) only [push_cast, simprocAttr, hlF] <;> rfl))))

    all_goals (show _ = _; rfl)
theorem SameSpans_ok (a b : List Span) (ha : a.length ≤ 1099511627776) (hb : b.length ≤ 1099511627776) : OKv cx 37 [lSpan a, lSpan b] (ab (decide (a = b))) := by
  by_cases hl : a.length = b.length
  · have hlI : ((a.length : Int) = (b.length : Int)) = True := eq_true (by omega)
    refine OKat.of_body (rs := [4]) Try.func37 rfl (by decide +kernel) rfl (by simp [Try.ntmps37]) ?_
    simp only [Try.ntmps37]
    repeat' first
      | apply AW.seq | apply AW.region | apply AW.ret | apply AW.block | apply AW.skip | apply AW.exit | apply AW.scope | apply AW.label | apply AWL.nil | apply D.nil
      | refine W.draw cx_mixed (by decide +kernel) ?_
      | ((first | (apply W.step cx_ok; decide) | (apply D.step cx_ok; decide; decide) | apply AW.cond); (simp (disch := omega) only [push_cast, simprocAttr, hlI] <;> rfl); all_goals try ((with_reducible intro hI); try first | (cases hI; done) | (simp only [INTS, zL] at hI; try first | (exfalso; omega) | (have hT : True := hI; clear hT hI))))
      | ((first | apply W.ret1 | apply W.end1); (iterate 2 (try (simp (disch := omega) only [push_cast, simprocAttr, hlI] <;> rfl))))

    refine AW.loop (fun n s => ∃ (k : Nat), n = a.length - k ∧ (k ≤ a.length) ∧ (a.take k = b.take k) ∧ s.tm 0 = lSpan a ∧ s.tm 1 = lSpan b ∧ s.tm 5 = ai k) (a.length) ⟨0, rfl, (Nat.zero_le _), rfl, ?_, ?_, ?_⟩ ?_
    iterate 3 (first | (simp (disch := omega) only [push_cast, simprocAttr] <;> first | rfl | omega) | omega)
    rintro n s ⟨k, hn, hp0, hp1, hS⟩
    by_cases hk : k < a.length
    · have hkI : (k : Int) < (a.length : Int) := by omega
      have hkB : (k : Int) < (b.length : Int) := by omega
      have hkb : k < b.length := by omega
      obtain ⟨x, hx⟩ : ∃ x, a[k]? = some x := ⟨_, List.getElem?_eq_getElem hk⟩
      obtain ⟨y, hy⟩ : ∃ y, b[k]? = some y := ⟨_, List.getElem?_eq_getElem hkb⟩
      have gx : (a.map eSpan)[k]? = some (eSpan x) := by rw [List.getElem?_map, hx]; rfl
      have gy : (b.map eSpan)[k]? = some (eSpan y) := by rw [List.getElem?_map, hy]; rfl
      have dx : (a.map eSpan).getD k [] = eSpan x := by rw [List.getD_eq_getElem?_getD, gx]; rfl
      have dy : (b.map eSpan).getD k [] = eSpan y := by rw [List.getD_eq_getElem?_getD, gy]; rfl
      by_cases hxy : x.lo = y.lo ∧ x.hi = y.hi
      · have hxT : (x.lo = y.lo) = True := eq_true hxy.1
        have hxU : (x.hi = y.hi) = True := eq_true hxy.2
        repeat' first
          | apply AW.seq | apply AW.region | apply AW.ret | apply AW.block | apply AW.skip | apply AW.exit | apply AW.scope | apply AW.label | apply AWL.nil | apply D.nil
          | refine W.draw cx_mixed (by decide +kernel) ?_
          | ((first | (apply W.step cx_ok; decide) | (apply D.step cx_ok; decide; decide) | apply AW.cond); (simp (disch := omega) only [push_cast, simprocAttr, hS, hlI, hkI, hkB, gx, gy, dx, dy, hk, hkb, hxT, hxU] <;> rfl); all_goals try ((with_reducible intro hI); try first | (cases hI; done) | (simp only [INTS, zL] at hI; try first | (exfalso; omega) | (have hT : True := hI; clear hT hI))))
          | ((first | apply W.ret1 | apply W.end1); (iterate 2 (try (simp (disch := omega) only [push_cast, simprocAttr, hS, hlI, hkI, hkB, gx, gy, dx, dy, hk, hkb, hxT, hxU] <;> rfl))))

        all_goals (refine ⟨a.length - (k + 1), ?_, k + 1, rfl, (by omega), (by rw [List.take_add_one, List.take_add_one, hp1, hx, hy]; rw [show x = y by cases x; cases y; simp only [Span.mk.injEq]; exact hxy]), ?_, ?_, ?_⟩; (omega); all_goals first | (simp (disch := omega) only [push_cast, simprocAttr, hS, hlI, hkI, hkB, gx, gy, dx, dy, hk, hkb, hxT] <;> first | rfl | omega) | omega)
      · have hne : decide (a = b) = false := decide_eq_false fun e => by subst e; rw [hx] at hy; injection hy with hy; subst hy; exact hxy ⟨rfl, rfl⟩
        rw [hne]
        by_cases hlo : x.lo = y.lo
        · have hxT : (x.lo = y.lo) = True := eq_true hlo
          have hxF : (x.hi = y.hi) = False := eq_false fun h => hxy ⟨hlo, h⟩
          repeat' first
            | apply AW.seq | apply AW.region | apply AW.ret | apply AW.block | apply AW.skip | apply AW.exit | apply AW.scope | apply AW.label | apply AWL.nil | apply D.nil
            | refine W.draw cx_mixed (by decide +kernel) ?_
            | ((first | (apply W.step cx_ok; decide) | (apply D.step cx_ok; decide; decide) | apply AW.cond); (simp (disch := omega) only [push_cast, simprocAttr, hS, hlI, hkI, hkB, gx, gy, dx, dy, hk, hkb, hxT, hxF] <;> rfl); all_goals try ((with_reducible intro hI); try first | (cases hI; done) | (simp only [INTS, zL] at hI; try first | (exfalso; omega) | (have hT : True := hI; clear hT hI))))
            | ((first | apply W.ret1 | apply W.end1); (iterate 2 (try (simp (disch := omega) only [push_cast, simprocAttr, hS, hlI, hkI, hkB, gx, gy, dx, dy, hk, hkb, hxT, hxF] <;> rfl))))

          all_goals (show _ = _; rfl)
        · have hxF : (x.lo = y.lo) = False := eq_false hlo
          repeat' first
            | apply AW.seq | apply AW.region | apply AW.ret | apply AW.block | apply AW.skip | apply AW.exit | apply AW.scope | apply AW.label | apply AWL.nil | apply D.nil
            | refine W.draw cx_mixed (by decide +kernel) ?_
            | ((first | (apply W.step cx_ok; decide) | (apply D.step cx_ok; decide; decide) | apply AW.cond); (simp (disch := omega) only [push_cast, simprocAttr, hS, hlI, hkI, hkB, gx, gy, dx, dy, hk, hkb, hxF] <;> rfl); all_goals try ((with_reducible intro hI); try first | (cases hI; done) | (simp only [INTS, zL] at hI; try first | (exfalso; omega) | (have hT : True := hI; clear hT hI))))
            | ((first | apply W.ret1 | apply W.end1); (iterate 2 (try (simp (disch := omega) only [push_cast, simprocAttr, hS, hlI, hkI, hkB, gx, gy, dx, dy, hk, hkb, hxF] <;> rfl))))

          all_goals (show _ = _; rfl)
    · have hkI : ¬ (k : Int) < (a.length : Int) := by omega
      have he : decide (a = b) = true := decide_eq_true (by rw [List.take_of_length_le (by omega), List.take_of_length_le (by omega)] at hp1; exact hp1)
      rw [he]
      repeat' first
        | apply AW.seq | apply AW.region | apply AW.ret | apply AW.block | apply AW.skip | apply AW.exit | apply AW.scope | apply AW.label | apply AWL.nil | apply D.nil
        | refine W.draw cx_mixed (by decide +kernel) ?_
        | ((first | (apply W.step cx_ok; decide) | (apply D.step cx_ok; decide; decide) | apply AW.cond); (simp (disch := omega) only [push_cast, simprocAttr, hS, hlI, hkI] <;> rfl); all_goals try ((with_reducible intro hI); try first | (cases hI; done) | (simp only [INTS, zL] at hI; try first | (exfalso; omega) | (have hT : True := hI; clear hT hI))))
        | ((first | apply W.ret1 | apply W.end1); (iterate 2 (try (simp (disch := omega) only [push_cast, simprocAttr, hS, hlI, hkI] <;> rfl))))

      all_goals (show _ = _; rfl)
  · have hlF : ((a.length : Int) = (b.length : Int)) = False := eq_false (by omega)
    have hne : decide (a = b) = false := decide_eq_false fun e => hl (by rw [e])
    rw [hne]
    refine OKat.of_body (rs := [4]) Try.func37 rfl (by decide +kernel) rfl (by simp [Try.ntmps37]) ?_
    simp only [Try.ntmps37]
    repeat' first
      | apply AW.seq | apply AW.region | apply AW.ret | apply AW.block | apply AW.skip | apply AW.exit | apply AW.scope | apply AW.label | apply AWL.nil | apply D.nil
      | refine W.draw cx_mixed (by decide +kernel) ?_
      | ((first | (apply W.step cx_ok; decide) | (apply D.step cx_ok; decide; decide) | apply AW.cond); (simp (disch := omega) only [push_cast, simprocAttr, hlF] <;> rfl); all_goals try ((with_reducible intro hI); try first | (cases hI; done) | (simp only [INTS, zL] at hI; try first | (exfalso; omega) | (have hT : True := hI; clear hT hI))))
      | ((first | apply W.ret1 | apply W.end1); (iterate 2 (try (simp (disch := omega) only [push_cast, simprocAttr, hlF] <;> rfl))))

    all_goals (show _ = _; rfl)

end Go.Proofs.Ks

namespace Go.Proofs.Ks
open Go Go.Pg Go.Proofs

def legB (l : Leg) : Bool := decide (1 ≤ l.secs) && decide (l.secs ≤ 36000) && (decide (l.rate = 0) || (decide (900000 ≤ l.rate) && decide (l.rate ≤ 1100000)))
def runT : List Leg → Int → Int → Int
  | [], T, P => if 1073741823 < T ∨ 43200000000 ≤ P then 1 else 0
  | l :: r, T, P => if legB l = true then runT r (T + l.secs) (P + l.secs * l.rate) else 1
def runE (x : Run) : Int := if 40 < x.legs.length then 2 else if x.start < 0 ∨ 1073741823 < x.start ∨ x.micro < 0 ∨ 43200000000 ≤ x.micro then 1 else runT x.legs x.start x.micro
def sumT : List Leg → Int
  | [] => 0
  | l :: r => l.secs + sumT r
def sumP : List Leg → Int
  | [] => 0
  | l :: r => l.secs * l.rate + sumP r
theorem legB_iff {l : Leg} : legB l = true ↔ 1 ≤ l.secs ∧ l.secs ≤ 36000 ∧ (l.rate = 0 ∨ (900000 ≤ l.rate ∧ l.rate ≤ 1100000)) := by
  unfold legB; simp only [Bool.and_eq_true, Bool.or_eq_true, decide_eq_true_eq, and_assoc]
theorem mul_bd {a b A B : Int} (ha : 0 ≤ a) (ha2 : a ≤ A) (hb : 0 ≤ b) (hb2 : b ≤ B) : 0 ≤ a * b ∧ a * b ≤ A * B := by
  refine ⟨Int.mul_nonneg ha hb, ?_⟩
  exact Int.le_trans (Int.mul_le_mul_of_nonneg_right ha2 hb) (Int.mul_le_mul_of_nonneg_left hb2 (by omega))
theorem leg_bd {l : Leg} (h : legB l = true) : 1 ≤ l.secs ∧ l.secs ≤ 36000 ∧ 0 ≤ l.rate ∧ l.rate ≤ 1100000 ∧ 0 ≤ l.secs * l.rate ∧ l.secs * l.rate ≤ 39600000000 := by
  obtain ⟨h1, h2, h3⟩ := legB_iff.1 h
  have h4 : 0 ≤ l.rate ∧ l.rate ≤ 1100000 := by omega
  have := mul_bd (a := l.secs) (b := l.rate) (A := 36000) (B := 1100000) (by omega) h2 h4.1 h4.2
  omega
theorem runT_zero : ∀ {l : List Leg} {T P : Int}, runT l T P = 0 → (∀ y ∈ l, legB y = true) ∧ T + sumT l ≤ 1073741823 ∧ P + sumP l < 43200000000
  | [], T, P, h => by
    unfold runT at h
    split at h
    · cases h
    · simp only [sumT, sumP]; exact ⟨fun y hy => (by cases hy), by omega, by omega⟩
  | l :: r, T, P, h => by
    unfold runT at h
    split at h
    · rename_i hl
      obtain ⟨h1, h2, h3⟩ := runT_zero h
      simp only [sumT, sumP]
      refine ⟨fun y hy => ?_, by omega, by omega⟩
      rcases List.mem_cons.1 hy with rfl | hy
      · exact hl
      · exact h1 y hy
    · cases h
/-- What a run without errors keeps. -/
structure RunV (x : Run) : Prop where
  n : x.legs.length ≤ 40
  start : 0 ≤ x.start ∧ x.start ≤ 1073741823
  micro : 0 ≤ x.micro ∧ x.micro < 43200000000
  legs : ∀ y ∈ x.legs, legB y = true
  time : x.start + sumT x.legs ≤ 1073741823
  place : x.micro + sumP x.legs < 43200000000
theorem runE_V {x : Run} (h : runE x = 0) : RunV x := by
  unfold runE at h
  split at h
  · cases h
  · split at h
    · cases h
    · obtain ⟨h1, h2, h3⟩ := runT_zero h
      exact ⟨by omega, by omega, by omega, h1, h2, h3⟩
theorem CheckRun_ok (x : Run) (hlen : x.legs.length ≤ 1099511627776) : OKv cx 68 [.agg (eRun x)] (ai (runE x)) := by
  by_cases hn : 40 < x.legs.length
  · have e : runE x = 2 := by unfold runE; rw [if_pos hn]
    have hnI : (40 : Int) < (x.legs.length : Int) := by omega
    rw [e]
    refine OKat.of_body (rs := [2]) Try.func68 rfl (by decide +kernel) rfl (by simp [Try.ntmps68]) ?_
    simp only [Try.ntmps68]
    repeat' first
      | apply AW.seq | apply AW.region | apply AW.ret | apply AW.block | apply AW.skip | apply AW.exit | apply AW.scope | apply AW.label | apply AWL.nil | apply D.nil
      | refine W.draw cx_mixed (by decide +kernel) ?_
      | ((first | (apply W.step cx_ok; decide) | (apply D.step cx_ok; decide; decide) | apply W.store cx_ok | (apply W.gS; rfl; decide) | (apply D.gS; rfl; decide; decide) | apply AW.cond); (simp (disch := omega) only [push_cast, simprocAttr, hnI] <;> rfl); all_goals try ((with_reducible intro hI); try first | (cases hI; done) | (simp only [INTS, zL] at hI; try first | (exfalso; omega) | (have hT : True := hI; clear hT hI))))
      | ((first | (apply W.gU; rfl; decide) | (apply D.gU; rfl; decide; decide)); (simp (disch := omega) only [push_cast, simprocAttr, hnI] <;> rfl))
      | ((first | apply W.ret1 | apply W.end1); (iterate 2 (try (simp (disch := omega) only [push_cast, simprocAttr, hnI] <;> rfl))))

    all_goals (show _ = _; rfl)
  · have hnI : ¬ (40 : Int) < (x.legs.length : Int) := by omega
    by_cases hb : x.start < 0 ∨ 1073741823 < x.start ∨ x.micro < 0 ∨ 43200000000 ≤ x.micro
    · have e : runE x = 1 := by unfold runE; rw [if_neg hn, if_pos hb]
      rw [e]
      refine OKat.of_body (rs := [2]) Try.func68 rfl (by decide +kernel) rfl (by simp [Try.ntmps68]) ?_
      simp only [Try.ntmps68]
      repeat' first
        | apply AW.seq | apply AW.region | apply AW.ret | apply AW.block | apply AW.skip | apply AW.exit | apply AW.scope | apply AW.label | apply AWL.nil | apply D.nil
        | refine W.draw cx_mixed (by decide +kernel) ?_
        | ((first | (apply W.step cx_ok; decide) | (apply D.step cx_ok; decide; decide) | apply W.store cx_ok | (apply W.gS; rfl; decide) | (apply D.gS; rfl; decide; decide) | apply AW.cond); (simp (disch := omega) only [push_cast, simprocAttr, hnI] <;> rfl); all_goals try ((with_reducible intro hI); try first | (cases hI; done) | (simp only [INTS, zL] at hI; try first | (exfalso; omega) | (have hT : True := hI; clear hT hI))))
        | ((first | (apply W.gU; rfl; decide) | (apply D.gU; rfl; decide; decide)); (simp (disch := omega) only [push_cast, simprocAttr, hnI] <;> rfl))
        | ((first | apply W.ret1 | apply W.end1); (iterate 2 (try (simp (disch := omega) only [push_cast, simprocAttr, hnI] <;> rfl))))

      all_goals first
        | (show _ = _; rfl)
        | (exfalso; omega)
    · have e : runE x = runT x.legs x.start x.micro := by unfold runE; rw [if_neg hn, if_neg hb]
      obtain ⟨RES, hRES⟩ : ∃ z, runT x.legs x.start x.micro = z := ⟨_, rfl⟩
      rw [e, hRES]
      simp only [not_or, Int.not_lt, Int.not_le] at hb
      obtain ⟨b1, b2, b3, b4⟩ := hb
      refine OKat.of_body (rs := [2]) Try.func68 rfl (by decide +kernel) rfl (by simp [Try.ntmps68]) ?_
      simp only [Try.ntmps68]
      repeat' first
        | apply AW.seq | apply AW.region | apply AW.ret | apply AW.block | apply AW.skip | apply AW.exit | apply AW.scope | apply AW.label | apply AWL.nil | apply D.nil
        | refine W.draw cx_mixed (by decide +kernel) ?_
        | ((first | (apply W.step cx_ok; decide) | (apply D.step cx_ok; decide; decide) | apply W.store cx_ok | (apply W.gS; rfl; decide) | (apply D.gS; rfl; decide; decide) | apply AW.cond); (simp (disch := omega) only [push_cast, simprocAttr, hnI, b1, b2, b3, b4] <;> rfl); all_goals try ((with_reducible intro hI); try first | (cases hI; done) | (simp only [INTS, zL] at hI; try first | (exfalso; omega) | (have hT : True := hI; clear hT hI))))
        | ((first | (apply W.gU; rfl; decide) | (apply D.gU; rfl; decide; decide)); (simp (disch := omega) only [push_cast, simprocAttr, hnI, b1, b2, b3, b4] <;> rfl))
        | ((first | apply W.ret1 | apply W.end1); (iterate 2 (try (simp (disch := omega) only [push_cast, simprocAttr, hnI, b1, b2, b3, b4] <;> rfl))))

      refine AW.loop (fun n s => ∃ (k : Nat) (T P : Int) (rest : List Leg), n = rest.length ∧ (x.legs.drop k = rest) ∧ (runT rest T P = RES) ∧ (0 ≤ T ∧ T ≤ 1073741823 + 36000 * (k : Int)) ∧ (0 ≤ P ∧ P ≤ 43200000000 + 39600000000 * (k : Int)) ∧ 1 ≤ s.nx ∧ s.tm 3 = ai 43200000000 ∧ s.tm 4 = ai T ∧ s.tm 5 = ai P ∧ s.tm 36 = lLeg x.legs ∧ s.tm 37 = ai x.legs.length ∧ s.tm 38 = ai k) (x.legs.length) ⟨0, x.start, x.micro, x.legs, rfl, rfl, hRES, ⟨b1, (by omega)⟩, ⟨b3, (by omega)⟩, ?_, ?_, ?_, ?_, ?_, ?_, ?_⟩ ?_
      iterate 7 (first | (simp (disch := omega) only [push_cast, simprocAttr, hnI, b1, b2, b3, b4] <;> first | rfl | omega) | omega)
      rintro n s ⟨k, T, P, rest, hn, hp0, hp1, hp2, hp3, hnl, hS⟩
      rcases rest with _ | ⟨y, rest⟩
      · have hk := drop_nil hp0
        unfold runT at hp1
        repeat' first
          | apply AW.seq | apply AW.region | apply AW.ret | apply AW.block | apply AW.skip | apply AW.exit | apply AW.scope | apply AW.label | apply AWL.nil | apply D.nil
          | refine W.draw cx_mixed (by decide +kernel) ?_
          | ((first | (apply W.step cx_ok; decide) | (apply D.step cx_ok; decide; decide) | apply W.store cx_ok | (apply W.gS; rfl; decide) | (apply D.gS; rfl; decide; decide) | apply AW.cond); (simp (disch := omega) only [push_cast, simprocAttr, hS, hk] <;> rfl); all_goals try ((with_reducible intro hI); try first | (cases hI; done) | (simp only [INTS, zL] at hI; try first | (exfalso; omega) | (have hT : True := hI; clear hT hI))))
          | ((first | (apply W.gU; rfl; decide) | (apply D.gU; rfl; decide; decide)); (simp (disch := omega) only [push_cast, simprocAttr, hS, hk] <;> rfl))
          | ((first | apply W.ret1 | apply W.end1); (iterate 2 (try (simp (disch := omega) only [push_cast, simprocAttr, hS, hk] <;> rfl))))

        all_goals (show _ = _; rw [← hp1]; split <;> first | rfl | (exfalso; omega))
      · obtain ⟨hk, hg, hd', hl', hm, hx⟩ := drop_cons hp0 eLeg []
        have hk40 : (k : Int) ≤ 40 := by omega
        unfold runT at hp1
        by_cases hlg : legB y = true
        · obtain ⟨q1, q2, q3, q4, q5, q6⟩ := leg_bd hlg
          have q7 := legB_iff.1 hlg
          rw [if_pos hlg] at hp1
          repeat' first
            | apply AW.seq | apply AW.region | apply AW.ret | apply AW.block | apply AW.skip | apply AW.exit | apply AW.scope | apply AW.label | apply AWL.nil | apply D.nil
            | refine W.draw cx_mixed (by decide +kernel) ?_
            | ((first | (apply W.step cx_ok; decide) | (apply D.step cx_ok; decide; decide) | apply W.store cx_ok | (apply W.gS; rfl; decide) | (apply D.gS; rfl; decide; decide) | apply AW.cond); (simp (disch := omega) only [push_cast, simprocAttr, hS, hk, hg, hx] <;> rfl); all_goals try ((with_reducible intro hI); try first | (cases hI; done) | (simp only [INTS, zL] at hI; try first | (exfalso; omega) | (have hT : True := hI; clear hT hI))))
            | ((first | (apply W.gU; rfl; decide) | (apply D.gU; rfl; decide; decide)); (simp (disch := omega) only [push_cast, simprocAttr, hS, hk, hg, hx] <;> rfl))
            | ((first | apply W.ret1 | apply W.end1); (iterate 2 (try (simp (disch := omega) only [push_cast, simprocAttr, hS, hk, hg, hx] <;> rfl))))

          all_goals first
            | (exfalso; omega)
            | (refine ⟨rest.length, ?_, k + 1, T + y.secs, P + y.secs * y.rate, rest, rfl, hd', hp1, (by omega), (by omega), ?_, ?_, ?_, ?_, ?_, ?_, ?_⟩; ((simp only [List.length_cons] at *; omega)); all_goals first | (simp (disch := omega) only [push_cast, simprocAttr, hS, hk, hg, hx] <;> first | rfl | omega) | omega)
        · have q7 : ¬ (1 ≤ y.secs ∧ y.secs ≤ 36000 ∧ (y.rate = 0 ∨ (900000 ≤ y.rate ∧ y.rate ≤ 1100000))) := fun h => hlg (legB_iff.2 h)
          rw [if_neg hlg] at hp1
          repeat' first
            | apply AW.seq | apply AW.region | apply AW.ret | apply AW.block | apply AW.skip | apply AW.exit | apply AW.scope | apply AW.label | apply AWL.nil | apply D.nil
            | refine W.draw cx_mixed (by decide +kernel) ?_
            | ((first | (apply W.step cx_ok; decide) | (apply D.step cx_ok; decide; decide) | apply W.store cx_ok | (apply W.gS; rfl; decide) | (apply D.gS; rfl; decide; decide) | apply AW.cond); (simp (disch := omega) only [push_cast, simprocAttr, hS, hk, hg, hx] <;> rfl); all_goals try ((with_reducible intro hI); try first | (cases hI; done) | (simp only [INTS, zL] at hI; try first | (exfalso; omega) | (have hT : True := hI; clear hT hI))))
            | ((first | (apply W.gU; rfl; decide) | (apply D.gU; rfl; decide; decide)); (simp (disch := omega) only [push_cast, simprocAttr, hS, hk, hg, hx] <;> rfl))
            | ((first | apply W.ret1 | apply W.end1); (iterate 2 (try (simp (disch := omega) only [push_cast, simprocAttr, hS, hk, hg, hx] <;> rfl))))

          all_goals first
            | (exfalso; omega)
            | (show _ = _; rw [← hp1])
theorem end_ok (x : Run) (hv : RunV x) : OKv cx 105 [.agg (eRun x)] (.tup [ai (x.start + sumT x.legs), ai (x.micro + sumP x.legs)]) := by
  have hn := hv.n
  obtain ⟨b1, b2⟩ := hv.start
  obtain ⟨b3, b4⟩ := hv.micro
  obtain ⟨TT, hT⟩ : ∃ z, x.start + sumT x.legs = z := ⟨_, rfl⟩
  obtain ⟨PP, hP⟩ : ∃ z, x.micro + sumP x.legs = z := ⟨_, rfl⟩
  rw [hT, hP]
  refine OKat.of_body (rs := [2, 3]) Try.func105 rfl (by decide +kernel) rfl (by simp [Try.ntmps105]) ?_
  simp only [Try.ntmps105]
  repeat' first
    | apply AW.seq | apply AW.region | apply AW.ret | apply AW.block | apply AW.skip | apply AW.exit | apply AW.scope | apply AW.label | apply AWL.nil | apply D.nil
    | refine W.draw cx_mixed (by decide +kernel) ?_
    | ((first | (apply W.step cx_ok; decide) | (apply D.step cx_ok; decide; decide) | apply W.store cx_ok | apply AW.cond); (simp (disch := omega) only [push_cast, simprocAttr, b1, b2, b3, b4] <;> rfl); all_goals try ((with_reducible intro hI); try first | (cases hI; done) | (simp only [INTS, zL] at hI; try first | (exfalso; omega) | (have hT : True := hI; clear hT hI))))
    | ((first | apply W.ret2 | apply W.end2); (iterate 2 (try (simp (disch := omega) only [push_cast, simprocAttr, b1, b2, b3, b4] <;> rfl))))

  refine AW.loop (fun n s => ∃ (k : Nat) (T P : Int) (rest : List Leg), n = rest.length ∧ (x.legs.drop k = rest) ∧ (T + sumT rest = TT ∧ P + sumP rest = PP) ∧ (0 ≤ T ∧ T ≤ 1073741823 + 36000 * (k : Int)) ∧ (0 ≤ P ∧ P ≤ 43200000000 + 39600000000 * (k : Int)) ∧ 1 ≤ s.nx ∧ s.tm 4 = ai T ∧ s.tm 5 = ai P ∧ s.tm 13 = lLeg x.legs ∧ s.tm 14 = ai x.legs.length ∧ s.tm 15 = ai k) (x.legs.length) ⟨0, x.start, x.micro, x.legs, rfl, rfl, ⟨hT, hP⟩, ⟨b1, (by omega)⟩, ⟨b3, (by omega)⟩, ?_, ?_, ?_, ?_, ?_, ?_⟩ ?_
  iterate 6 (first | (simp (disch := omega) only [push_cast, simprocAttr, b1, b2, b3, b4] <;> first | rfl | omega) | omega)
  rintro n s ⟨k, T, P, rest, hn, hp0, hp1, hp2, hp3, hnl, hS⟩
  obtain ⟨e1, e2⟩ := hp1
  rcases rest with _ | ⟨y, rest⟩
  · have hk := drop_nil hp0
    simp only [sumT, sumP, Int.add_zero] at e1 e2
    subst e1; subst e2
    repeat' first
      | apply AW.seq | apply AW.region | apply AW.ret | apply AW.block | apply AW.skip | apply AW.exit | apply AW.scope | apply AW.label | apply AWL.nil | apply D.nil
      | refine W.draw cx_mixed (by decide +kernel) ?_
      | ((first | (apply W.step cx_ok; decide) | (apply D.step cx_ok; decide; decide) | apply W.store cx_ok | apply AW.cond); (simp (disch := omega) only [push_cast, simprocAttr, hS, hk] <;> rfl); all_goals try ((with_reducible intro hI); try first | (cases hI; done) | (simp only [INTS, zL] at hI; try first | (exfalso; omega) | (have hT : True := hI; clear hT hI))))
      | ((first | apply W.ret2 | apply W.end2); (iterate 2 (try (simp (disch := omega) only [push_cast, simprocAttr, hS, hk] <;> rfl))))

    all_goals (show _ = _; rfl)
  · obtain ⟨hk, hg, hd', hl', hm, hx⟩ := drop_cons hp0 eLeg []
    obtain ⟨q1, q2, q3, q4, q5, q6⟩ := leg_bd (hv.legs y hm)
    have hk40 : (k : Int) ≤ 40 := by omega
    simp only [sumT, sumP] at e1 e2
    repeat' first
      | apply AW.seq | apply AW.region | apply AW.ret | apply AW.block | apply AW.skip | apply AW.exit | apply AW.scope | apply AW.label | apply AWL.nil | apply D.nil
      | refine W.draw cx_mixed (by decide +kernel) ?_
      | ((first | (apply W.step cx_ok; decide) | (apply D.step cx_ok; decide; decide) | apply W.store cx_ok | apply AW.cond); (simp (disch := omega) only [push_cast, simprocAttr, hS, hk, hg, hx] <;> rfl); all_goals try ((with_reducible intro hI); try first | (cases hI; done) | (simp only [INTS, zL] at hI; try first | (exfalso; omega) | (have hT : True := hI; clear hT hI))))
      | ((first | apply W.ret2 | apply W.end2); (iterate 2 (try (simp (disch := omega) only [push_cast, simprocAttr, hS, hk, hg, hx] <;> rfl))))

    all_goals (refine ⟨rest.length, ?_, k + 1, T + y.secs, P + y.secs * y.rate, rest, rfl, hd', ⟨(by omega), (by omega)⟩, (by omega), (by omega), ?_, ?_, ?_, ?_, ?_, ?_⟩; ((simp only [List.length_cons] at *; omega)); all_goals first | (simp (disch := omega) only [push_cast, simprocAttr, hS, hk, hg, hx] <;> first | rfl | omega) | omega)
def needF : List Leg → Int → Int → Int
  | [], _, P => P
  | l :: r, F, P => needF r (F - min F l.secs) (P + min F l.secs * l.rate)
def needleP (x : Run) (t : Int) : Int × Int := if runE x = 0 then (if t < x.start ∨ x.start + sumT x.legs < t then (0, 3) else (needF x.legs (t - x.start) x.micro / 1000000, 0)) else (0, runE x)
theorem Needle_ok (x : Run) (t : Int) (hlen : x.legs.length ≤ 1099511627776) : OKv cx 66 [.agg (eRun x), ai t] (.tup [ai (needleP x t).1, ai (needleP x t).2]) := by
  unfold needleP
  have hch := CheckRun_ok x hlen
  by_cases hc : runE x = 0
  · have hv := runE_V hc
    have hend := end_ok x hv
    obtain ⟨b1, b2⟩ := hv.start
    obtain ⟨b3, b4⟩ := hv.micro
    have hn := hv.n
    have hti := hv.time
    obtain ⟨TT, hT⟩ : ∃ z, x.start + sumT x.legs = z := ⟨_, rfl⟩
    obtain ⟨PP, hP⟩ : ∃ z, x.micro + sumP x.legs = z := ⟨_, rfl⟩
    rw [hT, hP] at hend
    rw [hT] at hti ⊢
    rw [if_pos hc]
    by_cases ht : t < x.start ∨ TT < t
    · rw [if_pos ht]
      refine OKat.of_body (rs := [4, 5]) Try.func66 rfl (by decide +kernel) rfl (by simp [Try.ntmps66]) ?_
      simp only [Try.ntmps66]
      repeat' first
        | apply AW.seq | apply AW.region | apply AW.ret | apply AW.block | apply AW.skip | apply AW.exit | apply AW.scope | apply AW.label | apply AWL.nil | apply D.nil
        | refine W.draw cx_mixed (by decide +kernel) ?_
        | ((first | (apply W.step cx_ok; decide) | (apply D.step cx_ok; decide; decide) | apply W.store cx_ok | (apply W.gS; rfl; decide) | (apply D.gS; rfl; decide; decide) | apply AW.cond); (simp (disch := omega) only [push_cast, simprocAttr, hc] <;> rfl); all_goals try ((with_reducible intro hI); try first | (cases hI; done) | (simp only [INTS, zL] at hI; try first | (exfalso; omega) | (have hT : True := hI; clear hT hI))))
        | ((first | (apply W.callv cx_ok; decide) | (apply D.callv cx_ok; decide; decide)); (iterate 2 (simp (disch := omega) only [push_cast, simprocAttr, hc] <;> rfl)); (with_reducible first | exact hch | exact hend); try first | rfl | (simp (disch := omega) only [push_cast, simprocAttr, hc] <;> rfl))
        | ((first | apply W.ret2 | apply W.end2); (iterate 2 (try (simp (disch := omega) only [push_cast, simprocAttr, hc] <;> rfl))))

      all_goals first
        | (exfalso; omega)
        | (show _ = _; rfl)
    · rw [if_neg ht]
      simp only [not_or, Int.not_lt] at ht
      obtain ⟨t1, t2⟩ := ht
      obtain ⟨RES, hRES⟩ : ∃ z, needF x.legs (t - x.start) x.micro = z := ⟨_, rfl⟩
      rw [hRES]
      refine OKat.of_body (rs := [4, 5]) Try.func66 rfl (by decide +kernel) rfl (by simp [Try.ntmps66]) ?_
      simp only [Try.ntmps66]
      repeat' first
        | apply AW.seq | apply AW.region | apply AW.ret | apply AW.block | apply AW.skip | apply AW.exit | apply AW.scope | apply AW.label | apply AWL.nil | apply D.nil
        | refine W.draw cx_mixed (by decide +kernel) ?_
        | ((first | (apply W.step cx_ok; decide) | (apply D.step cx_ok; decide; decide) | apply W.store cx_ok | (apply W.gS; rfl; decide) | (apply D.gS; rfl; decide; decide) | apply AW.cond); (simp (disch := omega) only [push_cast, simprocAttr, hc, t1, t2] <;> rfl); all_goals try ((with_reducible intro hI); try first | (cases hI; done) | (simp only [INTS, zL] at hI; try first | (exfalso; omega) | (have hT : True := hI; clear hT hI))))
        | ((first | (apply W.callv cx_ok; decide) | (apply D.callv cx_ok; decide; decide)); (iterate 2 (simp (disch := omega) only [push_cast, simprocAttr, hc, t1, t2] <;> rfl)); (with_reducible first | exact hch | exact hend); try first | rfl | (simp (disch := omega) only [push_cast, simprocAttr, hc, t1, t2] <;> rfl))
        | ((first | apply W.ret2 | apply W.end2); (iterate 2 (try (simp (disch := omega) only [push_cast, simprocAttr, hc, t1, t2] <;> rfl))))

      refine AW.loop (fun n s => ∃ (k : Nat) (F P : Int) (rest : List Leg), n = rest.length ∧ (x.legs.drop k = rest) ∧ (needF rest F P = RES) ∧ (0 ≤ F ∧ F ≤ 1073741823) ∧ (0 ≤ P ∧ P ≤ 43200000000 + 39600000000 * (k : Int)) ∧ (k ≤ x.legs.length) ∧ 1 ≤ s.nx ∧ s.tm 9 = ai F ∧ s.tm 10 = ai P ∧ s.tm 40 = lLeg x.legs ∧ s.tm 41 = ai x.legs.length ∧ s.tm 42 = ai k) (x.legs.length) ⟨0, (t - x.start), x.micro, x.legs, rfl, rfl, hRES, (by omega), ⟨b3, (by omega)⟩, (Nat.zero_le _), ?_, ?_, ?_, ?_, ?_, ?_⟩ ?_
      iterate 6 (first | (simp (disch := omega) only [push_cast, simprocAttr, hc, t1, t2] <;> first | rfl | omega) | omega)
      rintro n s ⟨k, F, P, rest, hn, hp0, hp1, hp2, hp3, hp4, hnl, hS⟩
      rcases rest with _ | ⟨y, rest⟩
      · have hk := drop_nil hp0
        unfold needF at hp1
        subst hp1
        repeat' first
          | apply AW.seq | apply AW.region | apply AW.ret | apply AW.block | apply AW.skip | apply AW.exit | apply AW.scope | apply AW.label | apply AWL.nil | apply D.nil
          | refine W.draw cx_mixed (by decide +kernel) ?_
          | ((first | (apply W.step cx_ok; decide) | (apply D.step cx_ok; decide; decide) | apply W.store cx_ok | (apply W.gS; rfl; decide) | (apply D.gS; rfl; decide; decide) | apply AW.cond); (simp (disch := omega) only [push_cast, simprocAttr, hS, hk] <;> rfl); all_goals try ((with_reducible intro hI); try first | (cases hI; done) | (simp only [INTS, zL] at hI; try first | (exfalso; omega) | (have hT : True := hI; clear hT hI))))
          | ((first | apply W.ret2 | apply W.end2); (iterate 2 (try (simp (disch := omega) only [push_cast, simprocAttr, hS, hk] <;> rfl))))

        all_goals (show _ = _; rfl)
      · obtain ⟨hk, hg, hd', hl', hm, hx⟩ := drop_cons hp0 eLeg []
        obtain ⟨q1, q2, q3, q4, q5, q6⟩ := leg_bd (hv.legs y hm)
        have hk40 : (k : Int) ≤ 40 := by omega
        unfold needF at hp1
        obtain ⟨m1, m2⟩ := mul_bd (a := min F y.secs) (b := y.rate) (A := 36000) (B := 1100000) (by omega) (by omega) q3 q4
        obtain ⟨MN, hMN⟩ : ∃ z, min F y.secs = z := ⟨_, rfl⟩
        rw [hMN] at hp1 m1 m2
        repeat' first
          | apply AW.seq | apply AW.region | apply AW.ret | apply AW.block | apply AW.skip | apply AW.exit | apply AW.scope | apply AW.label | apply AWL.nil | apply D.nil
          | refine W.draw cx_mixed (by decide +kernel) ?_
          | ((first | (apply W.step cx_ok; decide) | (apply D.step cx_ok; decide; decide) | apply W.store cx_ok | (apply W.gS; rfl; decide) | (apply D.gS; rfl; decide; decide) | apply AW.cond); (simp (disch := omega) only [push_cast, simprocAttr, hS, hk, hg, hx, hMN] <;> rfl); all_goals try ((with_reducible intro hI); try first | (cases hI; done) | (simp only [INTS, zL] at hI; try first | (exfalso; omega) | (have hT : True := hI; clear hT hI))))
          | ((first | apply W.ret2 | apply W.end2); (iterate 2 (try (simp (disch := omega) only [push_cast, simprocAttr, hS, hk, hg, hx, hMN] <;> rfl))))

        all_goals (refine ⟨rest.length, ?_, k + 1, F - MN, P + MN * y.rate, rest, rfl, hd', hp1, (by omega), (by omega), (by omega), ?_, ?_, ?_, ?_, ?_, ?_⟩; ((simp only [List.length_cons] at *; omega)); all_goals first | (simp (disch := omega) only [push_cast, simprocAttr, hS, hk, hg, hx, hMN] <;> first | rfl | omega) | omega)
  · rw [if_neg hc]
    have hcF : (runE x = 0) = False := eq_false hc
    refine OKat.of_body (rs := [4, 5]) Try.func66 rfl (by decide +kernel) rfl (by simp [Try.ntmps66]) ?_
    simp only [Try.ntmps66]
    repeat' first
      | apply AW.seq | apply AW.region | apply AW.ret | apply AW.block | apply AW.skip | apply AW.exit | apply AW.scope | apply AW.label | apply AWL.nil | apply D.nil
      | refine W.draw cx_mixed (by decide +kernel) ?_
      | ((first | (apply W.step cx_ok; decide) | (apply D.step cx_ok; decide; decide) | apply W.store cx_ok | (apply W.gS; rfl; decide) | (apply D.gS; rfl; decide; decide) | apply AW.cond); (simp (disch := omega) only [push_cast, simprocAttr, hcF] <;> rfl); all_goals try ((with_reducible intro hI); try first | (cases hI; done) | (simp only [INTS, zL] at hI; try first | (exfalso; omega) | (have hT : True := hI; clear hT hI))))
      | ((first | (apply W.callv cx_ok; decide) | (apply D.callv cx_ok; decide; decide)); (iterate 2 (simp (disch := omega) only [push_cast, simprocAttr, hcF] <;> rfl)); (with_reducible first | exact hch); try first | rfl | (simp (disch := omega) only [push_cast, simprocAttr, hcF] <;> rfl))
      | ((first | apply W.ret2 | apply W.end2); (iterate 2 (try (simp (disch := omega) only [push_cast, simprocAttr, hcF] <;> rfl))))

    all_goals (show _ = _; rfl)

end Go.Proofs.Ks

/-
  The example of the chapter: the values of the plain functions, by computation. No conditions.
-/
set_option maxRecDepth 100000
namespace Go.Proofs.Ks
open Go Go.Pg Go.Proofs

def exS : Session := { id := 1, inn := ⟨1000, 1010⟩, out := ⟨5000, 6000⟩, zero := ⟨0, 9⟩, fin := ⟨4000, 4020⟩, rate := ⟨1000000, 1000000⟩, stops := [] }
def exR : Rec := { s := exS, strikes := [⟨1, ⟨1000, 1000⟩⟩, ⟨2, ⟨2000, 2005⟩⟩], sights := [] }
def exR2 : Rec := { exR with sights := [⟨1, ⟨2100, 2200⟩⟩] }
theorem ex_check : checkE exR = 0 := by decide +kernel
theorem ex_links : (linksR exR []).length = 71 := by decide +kernel
theorem ex_cons : consP exR [] = true := by decide +kernel
theorem ex_spans : spansP exR = [⟨1990, 2011⟩, ⟨2990, 3016⟩] := by decide +kernel
theorem ex_between : betweenP exR 0 1 = (⟨999, 1006⟩, 0) := by decide +kernel
theorem ex_removed : eventP exR 2 = (⟨5000, 5031⟩, 0) := by decide +kernel
theorem ex_when : whenP exR 500 = (⟨1490, 1510⟩, 0) := by decide +kernel
theorem ex_yes : fitsP exR [2000, 3000] = (true, 0) := by decide +kernel
theorem ex_no : fitsP exR [2000, 3007] = (false, 0) := by decide +kernel
theorem ex_check2 : checkE exR2 = 0 := by decide +kernel
theorem ex_cons2 : consP exR2 [] = false := by decide +kernel
theorem ex_clash : clashO (nodesR exR2 []).length (linksR exR2 []) = some [9, 21, 12, 5, 0] := by decide +kernel
theorem ex_cc : checkClashE exR2 [9, 21, 12, 5, 0] = 0 := by decide +kernel
theorem ex_st : stF exR2 exR2.strikes.length = [1] := by decide +kernel
theorem ex_sg : sgF exR2 exR2.sights.length = [0] := by decide +kernel
theorem ex_susp : suspP exR2 = ([1], [0]) := by unfold suspP; rw [ex_st, ex_sg, List.mergeSort_singleton]
def exRun : Run := { start := 1000, micro := 500000, legs := [⟨100, 1000000⟩] }
theorem ex_needle : needleP exRun 1007 = (7, 0) := by decide +kernel
end Go.Proofs.Ks

namespace Go.Proofs.Ks
open Go Go.Pg Go.Proofs

theorem example_ok : OKv cx 76 [] (.agg (eRec exR)) := by
  refine OKat.of_bodyM cx_ok (rs := [.cell 0 30]) Try.func76 rfl (by decide +kernel) rfl (by simp [Try.ntmps76]) ?_
  simp only [Try.ntmps76]
  repeat' first
    | apply AW.seq | apply AW.region | apply AW.ret | apply AW.block | apply AW.skip | apply AW.exit | apply AW.scope | apply AW.label | apply AWL.nil
    | ((first | (apply W.step cx_ok; decide) | apply W.store cx_ok | apply AW.cond); (simp (disch := omega) only [push_cast, simprocAttr] <;> rfl); all_goals try ((with_reducible intro hI); try first | (cases hI; done) | (simp only [INTS, zL] at hI; try first | (exfalso; omega) | (have hT : True := hI; clear hT hI))))
    | ((first | apply W.retM | apply W.endM'); (iterate 2 (try (simp (disch := omega) only [push_cast, simprocAttr] <;> rfl))))

  all_goals (show _ = _; rfl)
theorem sanity_ok : OKv cx 20 [] (ab true) := by
  have c76 := example_ok
  have c40 := Links_good exR ex_check
  have c34 := Spans_good exR ex_check ex_cons
  rw [ex_spans] at c34
  replace c34 : OKv cx 34 [.agg (eRec exR)] (.tup [.lst [[ai 1990, ai 2011], [ai 2990, ai 3016]], ai 0]) := c34
  have c23 := Between_ok exR 0 1
  rw [ex_between] at c23
  replace c23 : OKv cx 23 [.agg (eRec exR), ai 0, ai 1] (.tup [.agg [ai 999, ai 1006], ai 0]) := c23
  have c60 := Removed_ok exR
  rw [ex_removed] at c60
  replace c60 : OKv cx 60 [.agg (eRec exR)] (.tup [.agg [ai 5000, ai 5031], ai 0]) := c60
  have c24 := When_ok exR 500
  rw [ex_when] at c24
  replace c24 : OKv cx 24 [.agg (eRec exR), ai 500] (.tup [.agg [ai 1490, ai 1510], ai 0]) := c24
  have c53 := Fits_ok exR [2000, 3000] (by simp)
  rw [ex_yes] at c53
  replace c53 : OKv cx 53 [.agg (eRec exR), .lst [[ai 2000], [ai 3000]]] (.tup [ab true, ai 0]) := c53
  have d53 := Fits_ok exR [2000, 3007] (by simp)
  rw [ex_no] at d53
  replace d53 : OKv cx 53 [.agg (eRec exR), .lst [[ai 2000], [ai 3007]]] (.tup [ab false, ai 0]) := d53
  have c37 : OKv cx 37 [.lst [[ai 1990, ai 2011], [ai 2990, ai 3016]], .lst [[ai 1990, ai 2011], [ai 2990, ai 3016]]] (ab true) := by
    have := SameSpans_ok [⟨1990, 2011⟩, ⟨2990, 3016⟩] [⟨1990, 2011⟩, ⟨2990, 3016⟩] (by simp) (by simp)
    rw [decide_eq_true rfl] at this
    exact this
  have i1 : OKv cx 51 [.lst [[ai 1]], .lst [[ai 1]]] (ab true) := by
    have := SameInts_ok [1] [1] (by simp) (by simp)
    rw [decide_eq_true rfl] at this
    exact this
  have i0 : OKv cx 51 [.lst [[ai 0]], .lst [[ai 0]]] (ab true) := by
    have := SameInts_ok [0] [0] (by simp) (by simp)
    rw [decide_eq_true rfl] at this
    exact this
  have c27 := Clash_some exR2 ex_check2 ex_cons2 ex_clash
  replace c27 : OKv cx 27 [.agg (eRec exR2)] (.tup [.lst [[ai 9], [ai 21], [ai 12], [ai 5], [ai 0]], ab true, ai 0]) := c27
  have c48 := Suspects_some exR2 ex_check2 ex_cons2
  rw [ex_susp] at c48
  replace c48 : OKv cx 48 [.agg (eRec exR2)] (.tup [.lst [[ai 1]], .lst [[ai 0]], ai 0]) := c48
  have c28 := CheckClash_ok exR2 [9, 21, 12, 5, 0] (by simp)
  rw [ex_cc] at c28
  replace c28 : OKv cx 28 [.agg (eRec exR2), .lst [[ai 9], [ai 21], [ai 12], [ai 5], [ai 0]]] (ai 0) := c28
  have c66 := Needle_ok exRun 1007 (by simp [exRun])
  rw [ex_needle] at c66
  replace c66 : OKv cx 66 [.agg [ai 1000, ai 500000, .lst [[ai 100, ai 1000000]]], ai 1007] (.tup [ai 7, ai 0]) := c66
  have hex : exR2 = { exR with sights := [⟨1, ⟨2100, 2200⟩⟩] } := rfl
  rw [hex] at c27 c48 c28
  have hlen := ex_links
  have hsg : exR.sights = [] := rfl
  obtain ⟨R, hR⟩ : ∃ z, exR = z := ⟨_, rfl⟩
  rw [hR] at c76 c40 c34 c23 c60 c24 c53 d53 c27 c48 c28 hlen hsg
  replace c27 : OKv cx 27 [.agg [ai R.s.id, ai R.s.inn.lo, ai R.s.inn.hi, ai R.s.out.lo, ai R.s.out.hi, ai R.s.zero.lo, ai R.s.zero.hi, ai R.s.fin.lo, ai R.s.fin.hi, ai R.s.rate.lo, ai R.s.rate.hi, lStop R.s.stops, lStrike R.strikes, .lst [[ai 1, ai 2100, ai 2200]]]] (.tup [.lst [[ai 9], [ai 21], [ai 12], [ai 5], [ai 0]], ab true, ai 0]) := c27
  replace c48 : OKv cx 48 [.agg [ai R.s.id, ai R.s.inn.lo, ai R.s.inn.hi, ai R.s.out.lo, ai R.s.out.hi, ai R.s.zero.lo, ai R.s.zero.hi, ai R.s.fin.lo, ai R.s.fin.hi, ai R.s.rate.lo, ai R.s.rate.hi, lStop R.s.stops, lStrike R.strikes, .lst [[ai 1, ai 2100, ai 2200]]]] (.tup [.lst [[ai 1]], .lst [[ai 0]], ai 0]) := c48
  replace c28 : OKv cx 28 [.agg [ai R.s.id, ai R.s.inn.lo, ai R.s.inn.hi, ai R.s.out.lo, ai R.s.out.hi, ai R.s.zero.lo, ai R.s.zero.hi, ai R.s.fin.lo, ai R.s.fin.hi, ai R.s.rate.lo, ai R.s.rate.hi, lStop R.s.stops, lStrike R.strikes, .lst [[ai 1, ai 2100, ai 2200]]], .lst [[ai 9], [ai 21], [ai 12], [ai 5], [ai 0]]] (ai 0) := c28
  obtain ⟨LK, hLK⟩ : ∃ z, linksR R [] = z := ⟨_, rfl⟩
  rw [hLK] at c40 hlen
  have hlen' : (LK.length : Int) = 71 := by omega
  have hf1 : flatA (.tup [.lst [[ai 9], [ai 21], [ai 12], [ai 5], [ai 0]], ab true, ai 0]) = false := rfl
  have hf2 : flatA (.tup [.lst [[ai 1]], .lst [[ai 0]], ai 0]) = false := rfl
  have hf3 : flatA (.tup [ai 7, ai 0]) = true := rfl
  have hf4 : ∀ x, flatA (.v x) = true := fun _ => rfl
  refine OKat.of_body (rs := [0]) Try.func20 rfl (by decide +kernel) rfl (by simp [Try.ntmps20]) ?_
  simp only [Try.ntmps20]
  repeat' first
    | apply AW.seq | apply AW.region | apply AW.ret | apply AW.block | apply AW.skip | apply AW.exit | apply AW.scope | apply AW.label | apply AWL.nil
    | ((first | (apply W.step cx_ok; decide) | apply W.store cx_ok | (apply W.gS; rfl; decide) | apply AW.cond | apply W.mapUpdate cx_ok); (simp (disch := omega) only [push_cast, simprocAttr, natNe, zI, zG, TyD.isAgg, zJ, rowAt_afterH, St.back, idsL, idsA, idsLL, yB, yA, zM, hlen', hf1, hf2, hf3, hf4, Option.map_some] <;> rfl); all_goals try ((with_reducible intro hI); try first | (cases hI; done) | (simp only [INTS, zL] at hI; try first | (exfalso; omega) | (have hT : True := hI; clear hT hI))))
    | (refine W.makeMap cx_ok (by simp only [push_cast, simprocAttr] <;> rfl) (by decide) ?_)
    | ((apply W.callv cx_ok; decide); (iterate 2 (simp (disch := omega) only [push_cast, simprocAttr, natNe, zI, zG, TyD.isAgg, zJ, rowAt_afterH, St.back, idsL, idsA, idsLL, yB, yA, zM, hlen', hf1, hf2, hf3, hf4, Option.map_some] <;> rfl)); (with_reducible first | exact c76 | exact c40 | exact c34 | exact c23 | exact c60 | exact c24 | exact c53 | exact d53 | exact c37 | exact i1 | exact i0 | exact c27 | exact c48 | exact c28 | exact c66); try first | rfl | (simp (disch := omega) only [push_cast, simprocAttr, natNe, zI, zG, TyD.isAgg, zJ, rowAt_afterH, St.back, idsL, idsA, idsLL, yB, yA, zM, hlen', hf1, hf2, hf3, hf4, Option.map_some] <;> rfl))
    | ((first | apply W.ret1 | apply W.end1); (iterate 2 (try (simp (disch := omega) only [push_cast, simprocAttr, natNe, zI, zG, TyD.isAgg, zJ, rowAt_afterH, St.back, idsL, idsA, idsLL, yB, yA, zM, hlen', hf1, hf2, hf3, hf4, Option.map_some] <;> rfl))))

  all_goals (show _ = _; rfl)

end Go.Proofs.Ks

namespace Go.Proofs.Ks
open Go Go.Pg Go.Proofs

def okN (t : Int) : Bool := decide (-1073741823 ≤ t) && decide (t ≤ 2147483646)
def lkB (ts : List Int) (l : Lk) : Bool := decide (ts.getD l.b 0 - ts.getD l.a 0 ≤ l.m)
def timesB (n : Nat) (L : List Lk) (ts : List Int) : Bool := decide (ts.length = n) && (decide (ts.headD 1 = 0) && (ts.all okN && L.all (lkB ts)))
def checkTimesE (r : Rec) (ts : List Int) : Int := if checkE r = 0 then (if timesB (nodesR r []).length (linksR r []) ts = true then 0 else 8) else checkE r
theorem getI {ts : List Int} {i : Nat} (h : i < ts.length) : (ts.map eInt)[i]? = some (eInt (ts.getD i 0)) ∧ (ts.map eInt).getD i [] = eInt (ts.getD i 0) ∧ ts.getD i 0 ∈ ts := by
  have e : ts[i]? = some (ts.getD i 0) := by rw [List.getD_eq_getElem?_getD, List.getElem?_eq_getElem h]; rfl
  have e2 : (ts.map eInt)[i]? = some (eInt (ts.getD i 0)) := by rw [List.getElem?_map, e]; rfl
  exact ⟨e2, by rw [List.getD_eq_getElem?_getD, e2]; rfl, List.mem_of_getElem? e⟩
theorem CheckTimes_ok (r : Rec) (ts : List Int) (hlt : ts.length ≤ 1099511627776) : OKv cx 47 [.agg (eRec r), lInt ts] (ai (checkTimesE r ts)) := by
  unfold checkTimesE
  by_cases hc : checkE r = 0
  · rw [if_pos hc]
    have hv := checkE_V hc
    obtain ⟨h1, h2, h3, h4, h5⟩ := links_facts (more := []) hv (by decide) nomore
    have hb : OKv cx 87 [.agg (eRec r), .lst []] (gSys (nodesR r []) (linksR r [])) := build_ok r [] hv (by decide) nomore
    have hnl := nodesR_len r []
    obtain ⟨N, hN⟩ : ∃ z, nodesR r [] = z := ⟨_, rfl⟩
    obtain ⟨LK, hLK⟩ : ∃ z, linksR r [] = z := ⟨_, rfl⟩
    rw [hN] at h1 h3 hb hnl ⊢
    rw [hLK] at h2 h3 h4 hb ⊢
    by_cases hl : ts.length = N.length
    · rcases ts with _ | ⟨c, ts⟩
      · exfalso; simp only [List.length_nil] at hl; omega
      · have gl0 : ((c :: ts).map eInt)[0]? = some (eInt c) := rfl
        have gd0 : ((c :: ts).map eInt).getD 0 [] = eInt c := rfl
        have hhd : (c :: ts).headD 1 = c := rfl
        obtain ⟨TS, hTS⟩ : ∃ z, c :: ts = z := ⟨_, rfl⟩
        rw [hTS] at hl hlt gl0 gd0 hhd ⊢
        have hlT : ((TS.length : Int) = (N.length : Int)) = True := eq_true (by omega)
        have hp0 : (0 : Int) < (TS.length : Int) := by omega
        by_cases q : c = 0
        · subst q
          obtain ⟨B, hB⟩ : ∃ z, (TS.all okN && LK.all (lkB TS)) = z := ⟨_, rfl⟩
          have hT : timesB N.length LK TS = B := by unfold timesB; rw [decide_eq_true hl, decide_eq_true hhd, Bool.true_and, Bool.true_and, hB]
          rw [hT]
          clear hT
          refine OKat.of_body (rs := [4]) Try.func47 rfl (by decide +kernel) rfl (by simp [Try.ntmps47]) ?_
          simp only [Try.ntmps47]
          repeat' first
            | apply AW.seq | apply AW.region | apply AW.ret | apply AW.block | apply AW.skip | apply AW.exit | apply AW.scope | apply AW.label | apply AWL.nil | apply D.nil
            | refine W.draw cx_mixed (by decide +kernel) ?_
            | ((first | (apply W.step cx_ok; decide) | (apply D.step cx_ok; decide; decide) | apply W.store cx_ok | (apply W.gS; rfl; decide) | (apply D.gS; rfl; decide; decide) | apply AW.cond); (simp (disch := omega) only [push_cast, simprocAttr, hc, hlT, gl0, gd0, hp0] <;> rfl); all_goals try ((with_reducible intro hI); try first | (cases hI; done) | (simp only [INTS, zL] at hI; try first | (exfalso; omega) | (have hT : True := hI; clear hT hI))))
            | ((first | (apply W.callv cx_ok; decide) | (apply D.callv cx_ok; decide; decide)); (iterate 2 (simp (disch := omega) only [push_cast, simprocAttr, hc, hlT, gl0, gd0, hp0] <;> rfl)); (with_reducible first | exact Check_ok r | exact hb); try first | rfl | (simp (disch := omega) only [push_cast, simprocAttr, hc, hlT, gl0, gd0, hp0] <;> rfl))
            | ((first | apply W.ret1 | apply W.end1); (iterate 2 (try (simp (disch := omega) only [push_cast, simprocAttr, hc, hlT, gl0, gd0, hp0] <;> rfl))))

          refine AW.loop (fun n s => ∃ (k : Nat) (rest : List Int), n = rest.length ∧ (TS.drop k = rest) ∧ ((rest.all okN && LK.all (lkB TS)) = B) ∧ (∀ t ∈ TS.take k, okN t = true) ∧ s.tm 1 = lInt TS ∧ s.tm 6 = gSys N LK ∧ s.tm 32 = lInt TS ∧ s.tm 33 = ai TS.length ∧ s.tm 34 = ai k) (TS.length) ⟨0, TS, rfl, rfl, hB, (fun t h => by simp at h), ?_, ?_, ?_, ?_, ?_⟩ ?_
          iterate 5 (first | (simp (disch := omega) only [push_cast, simprocAttr] <;> first | rfl | omega) | omega)
          rintro n0 s0 ⟨k0, rest0, hn0, hp00, hp10, hp20, hS0⟩
          rcases rest0 with _ | ⟨x, rest0⟩
          rotate_left
          · obtain ⟨hk, hg, hd', hl', hm', hx⟩ := drop_cons hp00 eInt []
            rw [List.all_cons, Bool.and_assoc] at hp10
            cases hx0 : okN x with
            | true =>
              have hx1 := hx0
              unfold okN at hx1
              simp only [Bool.and_eq_true, decide_eq_true_eq] at hx1
              obtain ⟨x1, x2⟩ := hx1
              rw [hx0, Bool.true_and] at hp10
              repeat' first
                | apply AW.seq | apply AW.region | apply AW.ret | apply AW.block | apply AW.skip | apply AW.exit | apply AW.scope | apply AW.label | apply AWL.nil | apply D.nil
                | refine W.draw cx_mixed (by decide +kernel) ?_
                | ((first | (apply W.step cx_ok; decide) | (apply D.step cx_ok; decide; decide) | apply W.store cx_ok | (apply W.gS; rfl; decide) | (apply D.gS; rfl; decide; decide) | apply AW.cond); (simp (disch := omega) only [push_cast, simprocAttr, hS0, hk, hg, hx, x1, x2] <;> rfl); all_goals try ((with_reducible intro hI); try first | (cases hI; done) | (simp only [INTS, zL] at hI; try first | (exfalso; omega) | (have hT : True := hI; clear hT hI))))
                | ((first | apply W.ret1 | apply W.end1); (iterate 2 (try (simp (disch := omega) only [push_cast, simprocAttr, hS0, hk, hg, hx, x1, x2] <;> rfl))))

              all_goals (refine ⟨rest0.length, ?_, k0 + 1, rest0, rfl, hd', hp10, (fun t ht => by rw [take_snoc hp00] at ht; exact (List.mem_append.1 ht).elim (hp20 t) fun h => by rw [List.mem_singleton.1 h]; exact hx0), ?_, ?_, ?_, ?_, ?_⟩; ((simp only [List.length_cons] at *; omega)); all_goals first | (simp (disch := omega) only [push_cast, simprocAttr, hS0, hk, hg, hx, x1, x2] <;> first | rfl | omega) | omega)
            | false =>
              have hx1 : ¬ (-1073741823 ≤ x ∧ x ≤ 2147483646) := fun h => by unfold okN at hx0; simp [h.1, h.2] at hx0
              rw [hx0, Bool.false_and] at hp10
              subst hp10
              repeat' first
                | apply AW.seq | apply AW.region | apply AW.ret | apply AW.block | apply AW.skip | apply AW.exit | apply AW.scope | apply AW.label | apply AWL.nil | apply D.nil
                | refine W.draw cx_mixed (by decide +kernel) ?_
                | ((first | (apply W.step cx_ok; decide) | (apply D.step cx_ok; decide; decide) | apply W.store cx_ok | (apply W.gS; rfl; decide) | (apply D.gS; rfl; decide; decide) | apply AW.cond); (simp (disch := omega) only [push_cast, simprocAttr, hS0, hk, hg, hx] <;> rfl); all_goals try ((with_reducible intro hI); try first | (cases hI; done) | (simp only [INTS, zL] at hI; try first | (exfalso; omega) | (have hT : True := hI; clear hT hI))))
                | ((first | apply W.ret1 | apply W.end1); (iterate 2 (try (simp (disch := omega) only [push_cast, simprocAttr, hS0, hk, hg, hx] <;> rfl))))

              all_goals first
                | (exfalso; omega)
                | (show _ = _; rfl)
          have hk := drop_nil hp00
          rw [List.take_of_length_le (List.drop_eq_nil_iff.1 hp00)] at hp20
          rw [List.all_nil, Bool.true_and] at hp10
          repeat' first
            | apply AW.seq | apply AW.region | apply AW.ret | apply AW.block | apply AW.skip | apply AW.exit | apply AW.scope | apply AW.label | apply AWL.nil | apply D.nil
            | refine W.draw cx_mixed (by decide +kernel) ?_
            | ((first | (apply W.step cx_ok; decide) | (apply D.step cx_ok; decide; decide) | apply W.store cx_ok | (apply W.gS; rfl; decide) | (apply D.gS; rfl; decide; decide) | apply AW.cond); (simp (disch := omega) only [push_cast, simprocAttr, hS0, hk] <;> rfl); all_goals try ((with_reducible intro hI); try first | (cases hI; done) | (simp only [INTS, zL] at hI; try first | (exfalso; omega) | (have hT : True := hI; clear hT hI))))
            | ((first | apply W.ret1 | apply W.end1); (iterate 2 (try (simp (disch := omega) only [push_cast, simprocAttr, hS0, hk] <;> rfl))))

          refine AW.loop (fun n s => ∃ (k : Nat) (rest : List Lk), n = rest.length ∧ (LK.drop k = rest) ∧ (rest.all (lkB TS) = B) ∧ s.tm 1 = lInt TS ∧ s.tm 48 = lLink LK ∧ s.tm 49 = ai LK.length ∧ s.tm 50 = ai k) (LK.length) ⟨0, LK, rfl, rfl, hp10, ?_, ?_, ?_, ?_⟩ ?_
          iterate 4 (first | (simp (disch := omega) only [push_cast, simprocAttr, hS0, hk] <;> first | rfl | omega) | omega)
          rintro n2 s2 ⟨k2, rest2, hn2, hp02, hp12, hS2⟩
          rcases rest2 with _ | ⟨x, rest2⟩
          · have hk2 := drop_nil hp02
            rw [List.all_nil] at hp12
            subst hp12
            repeat' first
              | apply AW.seq | apply AW.region | apply AW.ret | apply AW.block | apply AW.skip | apply AW.exit | apply AW.scope | apply AW.label | apply AWL.nil | apply D.nil
              | refine W.draw cx_mixed (by decide +kernel) ?_
              | ((first | (apply W.step cx_ok; decide) | (apply D.step cx_ok; decide; decide) | apply W.store cx_ok | (apply W.gS; rfl; decide) | (apply D.gS; rfl; decide; decide) | apply AW.cond); (simp (disch := omega) only [push_cast, simprocAttr, hS2, hk2] <;> rfl); all_goals try ((with_reducible intro hI); try first | (cases hI; done) | (simp only [INTS, zL] at hI; try first | (exfalso; omega) | (have hT : True := hI; clear hT hI))))
              | ((first | apply W.ret1 | apply W.end1); (iterate 2 (try (simp (disch := omega) only [push_cast, simprocAttr, hS2, hk2] <;> rfl))))

            all_goals (show _ = _; rfl)
          · obtain ⟨hk2, hg2, hd2, hl2, hm2, hx2⟩ := drop_cons hp02 eLink []
            obtain ⟨a1, a2⟩ := h3 x hm2
            obtain ⟨a3, a4⟩ := h4 x hm2
            obtain ⟨u1, u2, u3⟩ := getI (ts := TS) (i := x.a) (by omega)
            obtain ⟨v1, v2, v3⟩ := getI (ts := TS) (i := x.b) (by omega)
            have w1 := hp20 _ u3
            have w2 := hp20 _ v3
            rw [List.all_cons] at hp12
            have hxB : lkB TS x = decide (TS.getD x.b 0 - TS.getD x.a 0 ≤ x.m) := rfl
            rw [hxB] at hp12
            clear hxB
            obtain ⟨P, hP⟩ : ∃ z, TS.getD x.a 0 = z := ⟨_, rfl⟩
            obtain ⟨Q, hQ⟩ : ∃ z, TS.getD x.b 0 = z := ⟨_, rfl⟩
            rw [hP] at u1 u2 w1 hp12
            rw [hQ] at v1 v2 w2 hp12
            unfold okN at w1 w2
            simp only [Bool.and_eq_true, decide_eq_true_eq] at w1 w2
            obtain ⟨w1, w3⟩ := w1
            obtain ⟨w2, w4⟩ := w2
            have b1 : (x.a : Int) < (TS.length : Int) := by omega
            have b2 : (x.b : Int) < (TS.length : Int) := by omega
            by_cases hq : Q - P ≤ x.m
            · rw [decide_eq_true hq, Bool.true_and] at hp12
              repeat' first
                | apply AW.seq | apply AW.region | apply AW.ret | apply AW.block | apply AW.skip | apply AW.exit | apply AW.scope | apply AW.label | apply AWL.nil | apply D.nil
                | refine W.draw cx_mixed (by decide +kernel) ?_
                | ((first | (apply W.step cx_ok; decide) | (apply D.step cx_ok; decide; decide) | apply W.store cx_ok | (apply W.gS; rfl; decide) | (apply D.gS; rfl; decide; decide) | apply AW.cond); (simp (disch := omega) only [push_cast, simprocAttr, hS2, hk2, hg2, hx2, u1, u2, v1, v2, b1, b2, hq] <;> rfl); all_goals try ((with_reducible intro hI); try first | (cases hI; done) | (simp only [INTS, zL] at hI; try first | (exfalso; omega) | (have hT : True := hI; clear hT hI))))
                | ((first | apply W.ret1 | apply W.end1); (iterate 2 (try (simp (disch := omega) only [push_cast, simprocAttr, hS2, hk2, hg2, hx2, u1, u2, v1, v2, b1, b2, hq] <;> rfl))))

              all_goals (refine ⟨rest2.length, ?_, k2 + 1, rest2, rfl, hd2, hp12, ?_, ?_, ?_, ?_⟩; ((simp only [List.length_cons] at *; omega)); all_goals first | (simp (disch := omega) only [push_cast, simprocAttr, hS2, hk2, hg2, hx2, u1, u2, v1, v2, b1, b2, hq] <;> first | rfl | omega) | omega)
            · rw [decide_eq_false hq, Bool.false_and] at hp12
              subst hp12
              repeat' first
                | apply AW.seq | apply AW.region | apply AW.ret | apply AW.block | apply AW.skip | apply AW.exit | apply AW.scope | apply AW.label | apply AWL.nil | apply D.nil
                | refine W.draw cx_mixed (by decide +kernel) ?_
                | ((first | (apply W.step cx_ok; decide) | (apply D.step cx_ok; decide; decide) | apply W.store cx_ok | (apply W.gS; rfl; decide) | (apply D.gS; rfl; decide; decide) | apply AW.cond); (simp (disch := omega) only [push_cast, simprocAttr, hS2, hk2, hg2, hx2, u1, u2, v1, v2, b1, b2, hq] <;> rfl); all_goals try ((with_reducible intro hI); try first | (cases hI; done) | (simp only [INTS, zL] at hI; try first | (exfalso; omega) | (have hT : True := hI; clear hT hI))))
                | ((first | apply W.ret1 | apply W.end1); (iterate 2 (try (simp (disch := omega) only [push_cast, simprocAttr, hS2, hk2, hg2, hx2, u1, u2, v1, v2, b1, b2, hq] <;> rfl))))

              all_goals first
                | (exfalso; omega)
                | (show _ = _; rfl)
        · have qF : (c = 0) = False := eq_false q
          rw [if_neg (by unfold timesB; rw [hhd, decide_eq_false q]; simp)]
          refine OKat.of_body (rs := [4]) Try.func47 rfl (by decide +kernel) rfl (by simp [Try.ntmps47]) ?_
          simp only [Try.ntmps47]
          repeat' first
            | apply AW.seq | apply AW.region | apply AW.ret | apply AW.block | apply AW.skip | apply AW.exit | apply AW.scope | apply AW.label | apply AWL.nil | apply D.nil
            | refine W.draw cx_mixed (by decide +kernel) ?_
            | ((first | (apply W.step cx_ok; decide) | (apply D.step cx_ok; decide; decide) | apply W.store cx_ok | (apply W.gS; rfl; decide) | (apply D.gS; rfl; decide; decide) | apply AW.cond); (simp (disch := omega) only [push_cast, simprocAttr, hc, hlT, gl0, gd0, hp0, qF] <;> rfl); all_goals try ((with_reducible intro hI); try first | (cases hI; done) | (simp only [INTS, zL] at hI; try first | (exfalso; omega) | (have hT : True := hI; clear hT hI))))
            | ((first | (apply W.callv cx_ok; decide) | (apply D.callv cx_ok; decide; decide)); (iterate 2 (simp (disch := omega) only [push_cast, simprocAttr, hc, hlT, gl0, gd0, hp0, qF] <;> rfl)); (with_reducible first | exact Check_ok r | exact hb); try first | rfl | (simp (disch := omega) only [push_cast, simprocAttr, hc, hlT, gl0, gd0, hp0, qF] <;> rfl))
            | ((first | apply W.ret1 | apply W.end1); (iterate 2 (try (simp (disch := omega) only [push_cast, simprocAttr, hc, hlT, gl0, gd0, hp0, qF] <;> rfl))))

          all_goals (show _ = _; rfl)
    · have hlF : ((ts.length : Int) = (N.length : Int)) = False := eq_false (by omega)
      rw [if_neg (by unfold timesB; rw [decide_eq_false hl]; simp)]
      refine OKat.of_body (rs := [4]) Try.func47 rfl (by decide +kernel) rfl (by simp [Try.ntmps47]) ?_
      simp only [Try.ntmps47]
      repeat' first
        | apply AW.seq | apply AW.region | apply AW.ret | apply AW.block | apply AW.skip | apply AW.exit | apply AW.scope | apply AW.label | apply AWL.nil | apply D.nil
        | refine W.draw cx_mixed (by decide +kernel) ?_
        | ((first | (apply W.step cx_ok; decide) | (apply D.step cx_ok; decide; decide) | apply W.store cx_ok | (apply W.gS; rfl; decide) | (apply D.gS; rfl; decide; decide) | apply AW.cond); (simp (disch := omega) only [push_cast, simprocAttr, hc, hlF] <;> rfl); all_goals try ((with_reducible intro hI); try first | (cases hI; done) | (simp only [INTS, zL] at hI; try first | (exfalso; omega) | (have hT : True := hI; clear hT hI))))
        | ((first | (apply W.callv cx_ok; decide) | (apply D.callv cx_ok; decide; decide)); (iterate 2 (simp (disch := omega) only [push_cast, simprocAttr, hc, hlF] <;> rfl)); (with_reducible first | exact Check_ok r | exact hb); try first | rfl | (simp (disch := omega) only [push_cast, simprocAttr, hc, hlF] <;> rfl))
        | ((first | apply W.ret1 | apply W.end1); (iterate 2 (try (simp (disch := omega) only [push_cast, simprocAttr, hc, hlF] <;> rfl))))

      all_goals (show _ = _; rfl)
  · rw [if_neg hc]
    have hcF : (checkE r = 0) = False := eq_false hc
    refine OKat.of_body (rs := [4]) Try.func47 rfl (by decide +kernel) rfl (by simp [Try.ntmps47]) ?_
    simp only [Try.ntmps47]
    repeat' first
      | apply AW.seq | apply AW.region | apply AW.ret | apply AW.block | apply AW.skip | apply AW.exit | apply AW.scope | apply AW.label | apply AWL.nil | apply D.nil
      | refine W.draw cx_mixed (by decide +kernel) ?_
      | ((first | (apply W.step cx_ok; decide) | (apply D.step cx_ok; decide; decide) | apply W.store cx_ok | (apply W.gS; rfl; decide) | (apply D.gS; rfl; decide; decide) | apply AW.cond); (simp (disch := omega) only [push_cast, simprocAttr, hcF] <;> rfl); all_goals try ((with_reducible intro hI); try first | (cases hI; done) | (simp only [INTS, zL] at hI; try first | (exfalso; omega) | (have hT : True := hI; clear hT hI))))
      | ((first | (apply W.callv cx_ok; decide) | (apply D.callv cx_ok; decide; decide)); (iterate 2 (simp (disch := omega) only [push_cast, simprocAttr, hcF] <;> rfl)); (with_reducible first | exact Check_ok r); try first | rfl | (simp (disch := omega) only [push_cast, simprocAttr, hcF] <;> rfl))
      | ((first | apply W.ret1 | apply W.end1); (iterate 2 (try (simp (disch := omega) only [push_cast, simprocAttr, hcF] <;> rfl))))

    all_goals (show _ = _; rfl)

end Go.Proofs.Ks

namespace Go.Proofs.Ks
open Go Go.Pg Go.Proofs

theorem law10_ok (r : Rec) (ts : List Int) : OKv cx 10 [.agg (eRec r), lInt ts] (ab true) := by
  have csm := small_ok r
  have c20 := sanity_ok
  have c21 := RCheck_ok r
  cases hsm : smallB r with
  | false =>
    rw [hsm] at csm
    refine OKat.of_body (rs := [4]) Try.func10 rfl (by decide +kernel) rfl (by simp [Try.ntmps10]) ?_
    simp only [Try.ntmps10]
    repeat' first
      | apply AW.seq | apply AW.region | apply AW.ret | apply AW.block | apply AW.skip | apply AW.exit | apply AW.scope | apply AW.label | apply AWL.nil
      | ((first | (apply W.step cx_ok; decide) | (apply W.gS; rfl; decide) | apply AW.cond); (simp (disch := omega) only [push_cast, simprocAttr] <;> rfl); all_goals try ((with_reducible intro hI); try first | (cases hI; done) | (simp only [INTS, zL] at hI; try first | (exfalso; omega) | (have hT : True := hI; clear hT hI))))
      | ((apply W.gU; rfl; decide); (simp (disch := omega) only [push_cast, simprocAttr] <;> rfl))
      | ((apply W.callv cx_ok; decide); (iterate 2 (simp (disch := omega) only [push_cast, simprocAttr] <;> rfl)); (with_reducible first | exact csm | exact c20); try first | rfl | (simp (disch := omega) only [push_cast, simprocAttr] <;> rfl))
      | ((first | apply W.ret1 | apply W.end1); (iterate 2 (try (simp (disch := omega) only [push_cast, simprocAttr] <;> rfl))))

    all_goals (show _ = _; rfl)
  | true =>
    rw [hsm] at csm
    by_cases hl : 80 < ts.length
    · have hlI : (80 : Int) < (ts.length : Int) := by omega
      refine OKat.of_body (rs := [4]) Try.func10 rfl (by decide +kernel) rfl (by simp [Try.ntmps10]) ?_
      simp only [Try.ntmps10]
      repeat' first
        | apply AW.seq | apply AW.region | apply AW.ret | apply AW.block | apply AW.skip | apply AW.exit | apply AW.scope | apply AW.label | apply AWL.nil
        | ((first | (apply W.step cx_ok; decide) | (apply W.gS; rfl; decide) | apply AW.cond); (simp (disch := omega) only [push_cast, simprocAttr, hlI] <;> rfl); all_goals try ((with_reducible intro hI); try first | (cases hI; done) | (simp only [INTS, zL] at hI; try first | (exfalso; omega) | (have hT : True := hI; clear hT hI))))
        | ((apply W.gU; rfl; decide); (simp (disch := omega) only [push_cast, simprocAttr, hlI] <;> rfl))
        | ((apply W.callv cx_ok; decide); (iterate 2 (simp (disch := omega) only [push_cast, simprocAttr, hlI] <;> rfl)); (with_reducible first | exact csm | exact c20); try first | rfl | (simp (disch := omega) only [push_cast, simprocAttr, hlI] <;> rfl))
        | ((first | apply W.ret1 | apply W.end1); (iterate 2 (try (simp (disch := omega) only [push_cast, simprocAttr, hlI] <;> rfl))))

      all_goals (show _ = _; rfl)
    · have hlI : ¬ (80 : Int) < (ts.length : Int) := by omega
      have c47 := CheckTimes_ok r ts (by omega)
      by_cases hc : checkE r = 0
      · have hE : checkTimesE r ts = if timesB (nodesR r []).length (linksR r []) ts = true then 0 else 8 := by unfold checkTimesE; rw [if_pos hc]
        rw [hE] at c47
        rw [hc] at c21
        cases hB : timesB (nodesR r []).length (linksR r []) ts with
        | true =>
          rw [hB, if_pos rfl] at c47
          refine OKat.of_body (rs := [4]) Try.func10 rfl (by decide +kernel) rfl (by simp [Try.ntmps10]) ?_
          simp only [Try.ntmps10]
          repeat' first
            | apply AW.seq | apply AW.region | apply AW.ret | apply AW.block | apply AW.skip | apply AW.exit | apply AW.scope | apply AW.label | apply AWL.nil
            | ((first | (apply W.step cx_ok; decide) | (apply W.gS; rfl; decide) | apply AW.cond); (simp (disch := omega) only [push_cast, simprocAttr, hlI, natNe, zI, zG, TyD.isAgg, zJ, zM, Bool.true_and, zO, beq_self_eq_true, zP] <;> rfl); all_goals try ((with_reducible intro hI); try first | (cases hI; done) | (simp only [INTS, zL] at hI; try first | (exfalso; omega) | (have hT : True := hI; clear hT hI))))
            | ((apply W.gU; rfl; decide); (simp (disch := omega) only [push_cast, simprocAttr, hlI, natNe, zI, zG, TyD.isAgg, zJ, zM, Bool.true_and, zO, beq_self_eq_true, zP] <;> rfl))
            | ((apply W.callv cx_ok; decide); (iterate 2 (simp (disch := omega) only [push_cast, simprocAttr, hlI, natNe, zI, zG, TyD.isAgg, zJ, zM, Bool.true_and, zO, beq_self_eq_true, zP] <;> rfl)); (with_reducible first | exact csm | exact c20 | exact c47 | exact c21); try first | rfl | (simp (disch := omega) only [push_cast, simprocAttr, hlI, natNe, zI, zG, TyD.isAgg, zJ, zM, Bool.true_and, zO, beq_self_eq_true, zP] <;> rfl))
            | ((first | apply W.ret1 | apply W.end1); (iterate 2 (try (simp (disch := omega) only [push_cast, simprocAttr, hlI, natNe, zI, zG, TyD.isAgg, zJ, zM, Bool.true_and, zO, beq_self_eq_true, zP] <;> rfl))))

          all_goals (show _ = _; rfl)
        | false =>
          rw [hB, if_neg (by decide)] at c47
          refine OKat.of_body (rs := [4]) Try.func10 rfl (by decide +kernel) rfl (by simp [Try.ntmps10]) ?_
          simp only [Try.ntmps10]
          repeat' first
            | apply AW.seq | apply AW.region | apply AW.ret | apply AW.block | apply AW.skip | apply AW.exit | apply AW.scope | apply AW.label | apply AWL.nil
            | ((first | (apply W.step cx_ok; decide) | (apply W.gS; rfl; decide) | apply AW.cond); (simp (disch := omega) only [push_cast, simprocAttr, hlI, natNe, zI, zG, TyD.isAgg, zJ, zM, Bool.true_and, zO, beq_self_eq_true, zP] <;> rfl); all_goals try ((with_reducible intro hI); try first | (cases hI; done) | (simp only [INTS, zL] at hI; try first | (exfalso; omega) | (have hT : True := hI; clear hT hI))))
            | ((apply W.gU; rfl; decide); (simp (disch := omega) only [push_cast, simprocAttr, hlI, natNe, zI, zG, TyD.isAgg, zJ, zM, Bool.true_and, zO, beq_self_eq_true, zP] <;> rfl))
            | ((apply W.callv cx_ok; decide); (iterate 2 (simp (disch := omega) only [push_cast, simprocAttr, hlI, natNe, zI, zG, TyD.isAgg, zJ, zM, Bool.true_and, zO, beq_self_eq_true, zP] <;> rfl)); (with_reducible first | exact csm | exact c20 | exact c47 | exact c21); try first | rfl | (simp (disch := omega) only [push_cast, simprocAttr, hlI, natNe, zI, zG, TyD.isAgg, zJ, zM, Bool.true_and, zO, beq_self_eq_true, zP] <;> rfl))
            | ((first | apply W.ret1 | apply W.end1); (iterate 2 (try (simp (disch := omega) only [push_cast, simprocAttr, hlI, natNe, zI, zG, TyD.isAgg, zJ, zM, Bool.true_and, zO, beq_self_eq_true, zP] <;> rfl))))

          all_goals (show _ = _; rfl)
      · have hE : checkTimesE r ts = checkE r := by unfold checkTimesE; rw [if_neg hc]
        rw [hE] at c47
        have hcF : (checkE r = 0) = False := eq_false hc
        refine OKat.of_body (rs := [4]) Try.func10 rfl (by decide +kernel) rfl (by simp [Try.ntmps10]) ?_
        simp only [Try.ntmps10]
        repeat' first
          | apply AW.seq | apply AW.region | apply AW.ret | apply AW.block | apply AW.skip | apply AW.exit | apply AW.scope | apply AW.label | apply AWL.nil
          | ((first | (apply W.step cx_ok; decide) | (apply W.gS; rfl; decide) | apply AW.cond); (simp (disch := omega) only [push_cast, simprocAttr, hlI, hcF, natNe, zI, zG, TyD.isAgg, zJ, zM, Bool.true_and, zO, beq_self_eq_true, zP] <;> rfl); all_goals try ((with_reducible intro hI); try first | (cases hI; done) | (simp only [INTS, zL] at hI; try first | (exfalso; omega) | (have hT : True := hI; clear hT hI))))
          | ((apply W.gU; rfl; decide); (simp (disch := omega) only [push_cast, simprocAttr, hlI, hcF, natNe, zI, zG, TyD.isAgg, zJ, zM, Bool.true_and, zO, beq_self_eq_true, zP] <;> rfl))
          | ((apply W.callv cx_ok; decide); (iterate 2 (simp (disch := omega) only [push_cast, simprocAttr, hlI, hcF, natNe, zI, zG, TyD.isAgg, zJ, zM, Bool.true_and, zO, beq_self_eq_true, zP] <;> rfl)); (with_reducible first | exact csm | exact c20 | exact c47 | exact c21); try first | rfl | (simp (disch := omega) only [push_cast, simprocAttr, hlI, hcF, natNe, zI, zG, TyD.isAgg, zJ, zM, Bool.true_and, zO, beq_self_eq_true, zP] <;> rfl))
          | ((first | apply W.ret1 | apply W.end1); (iterate 2 (try (simp (disch := omega) only [push_cast, simprocAttr, hlI, hcF, natNe, zI, zG, TyD.isAgg, zJ, zM, Bool.true_and, zO, beq_self_eq_true, zP] <;> rfl))))

        all_goals (show _ = _; rfl)

end Go.Proofs.Ks
