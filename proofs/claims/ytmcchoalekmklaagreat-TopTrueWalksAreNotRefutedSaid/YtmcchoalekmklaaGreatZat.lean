/-
  Contracts of functions, proved by going through their code. No conditions.
-/
import Derived.Test.YtmcchoalekmklaaGreatZak
import Derived.Test.YtmcchoalekmklaaGreatZan
import Derived.Test.YtmcchoalekmklaaGreatZas
set_option linter.unusedVariables false
set_option linter.unusedSimpArgs false
set_option maxHeartbeats 8000000
set_option maxRecDepth 10000
namespace Go.Proofs.Ks
open Go Go.Pg Go.Proofs Go.Proofs.Yt
def legB (l : Leg) : Bool := decide (1 ≤ l.secs) && decide (l.secs ≤ 36000) && (decide (l.rate = 0) || (decide (900000 ≤ l.rate) && decide (l.rate ≤ 1100000)))
def runT : List Leg → Int → Int → Int
  | [], T, P => if 1073741823 < T ∨ 43200000000 ≤ P then 1 else 0
  | l :: r, T, P => if legB l = true then runT r (T + l.secs) (P + l.secs * l.rate) else 1
def runE (x : Run) : Int := if 40 < x.legs.length then 2 else if x.start < 0 ∨ 1073741823 < x.start ∨ x.micro < 0 ∨ 43200000000 ≤ x.micro then 1 else runT x.legs x.start x.micro
def sumT : List Leg → Int
  | [] => 0
  | l :: r => l.secs + sumT r
def sumP : List Leg → Int
  | [] => 0
  | l :: r => l.secs * l.rate + sumP r
theorem legB_iff {l : Leg} : legB l = true ↔ 1 ≤ l.secs ∧ l.secs ≤ 36000 ∧ (l.rate = 0 ∨ (900000 ≤ l.rate ∧ l.rate ≤ 1100000)) := by
  unfold legB; simp only [Bool.and_eq_true, Bool.or_eq_true, decide_eq_true_eq, and_assoc]
theorem mul_bd {a b A B : Int} (ha : 0 ≤ a) (ha2 : a ≤ A) (hb : 0 ≤ b) (hb2 : b ≤ B) : 0 ≤ a * b ∧ a * b ≤ A * B := by
  refine ⟨Int.mul_nonneg ha hb, ?_⟩
  exact Int.le_trans (Int.mul_le_mul_of_nonneg_right ha2 hb) (Int.mul_le_mul_of_nonneg_left hb2 (by omega))
theorem leg_bd {l : Leg} (h : legB l = true) : 1 ≤ l.secs ∧ l.secs ≤ 36000 ∧ 0 ≤ l.rate ∧ l.rate ≤ 1100000 ∧ 0 ≤ l.secs * l.rate ∧ l.secs * l.rate ≤ 39600000000 := by
  obtain ⟨h1, h2, h3⟩ := legB_iff.1 h
  have h4 : 0 ≤ l.rate ∧ l.rate ≤ 1100000 := by omega
  have := mul_bd (a := l.secs) (b := l.rate) (A := 36000) (B := 1100000) (by omega) h2 h4.1 h4.2
  omega
theorem runT_zero : ∀ {l : List Leg} {T P : Int}, runT l T P = 0 → (∀ y ∈ l, legB y = true) ∧ T + sumT l ≤ 1073741823 ∧ P + sumP l < 43200000000
  | [], T, P, h => by
    unfold runT at h
    split at h
    · cases h
    · simp only [sumT, sumP]; exact ⟨fun y hy => (by cases hy), by omega, by omega⟩
  | l :: r, T, P, h => by
    unfold runT at h
    split at h
    · rename_i hl
      obtain ⟨h1, h2, h3⟩ := runT_zero h
      simp only [sumT, sumP]
      refine ⟨fun y hy => ?_, by omega, by omega⟩
      rcases List.mem_cons.1 hy with rfl | hy
      · exact hl
      · exact h1 y hy
    · cases h
structure RunV (x : Run) : Prop where
  n : x.legs.length ≤ 40
  start : 0 ≤ x.start ∧ x.start ≤ 1073741823
  micro : 0 ≤ x.micro ∧ x.micro < 43200000000
  legs : ∀ y ∈ x.legs, legB y = true
  time : x.start + sumT x.legs ≤ 1073741823
  place : x.micro + sumP x.legs < 43200000000
theorem runE_V {x : Run} (h : runE x = 0) : RunV x := by
  unfold runE at h
  split at h
  · cases h
  · split at h
    · cases h
    · obtain ⟨h1, h2, h3⟩ := runT_zero h
      exact ⟨by omega, by omega, by omega, h1, h2, h3⟩
theorem CheckRun_ok (x : Run) (hlen : x.legs.length ≤ 1099511627776) : OKv cx 15 [.agg (eRun x)] (ai (runE x)) := by
  by_cases hn : 40 < x.legs.length
  · have e : runE x = 2 := by unfold runE; rw [if_pos hn]
    have hnI : (40 : Int) < (x.legs.length : Int) := by omega
    rw [e]
    refine OKat.of_body (rs := [2]) Tryz.func15 rfl (by decide +kernel) rfl (by simp [Tryz.ntmps15]) ?_
    simp only [Tryz.ntmps15]
    repeat' first
      | apply jA | apply jB | apply jC | apply jI
      | ((first | (apply jK kO; decide) | apply jR); (simp (disch := omega) only [push_cast, simprocAttr, hnI] <;> rfl); all_goals try ((with_reducible intro hI); try first | (cases hI; done) | (simp only [INTS, zL] at hI; try first | (exfalso; omega) | (have hT : True := hI; clear hT hI))))
      | ((apply W.ret1); (iterate 2 (try (simp (disch := omega) only [push_cast, simprocAttr, hnI] <;> rfl))))

    all_goals (show _ = _; rfl)
  · have hnI : ¬ (40 : Int) < (x.legs.length : Int) := by omega
    by_cases hb : x.start < 0 ∨ 1073741823 < x.start ∨ x.micro < 0 ∨ 43200000000 ≤ x.micro
    · have e : runE x = 1 := by unfold runE; rw [if_neg hn, if_pos hb]
      rw [e]
      refine OKat.of_body (rs := [2]) Tryz.func15 rfl (by decide +kernel) rfl (by simp [Tryz.ntmps15]) ?_
      simp only [Tryz.ntmps15]
      repeat' first
        | apply jA | apply jB | apply jC | apply jE | apply jI
        | ((first | (apply jK kO; decide) | (apply jN; rfl; decide) | apply jR); (simp (disch := omega) only [push_cast, simprocAttr, hnI] <;> rfl); all_goals try ((with_reducible intro hI); try first | (cases hI; done) | (simp only [INTS, zL] at hI; try first | (exfalso; omega) | (have hT : True := hI; clear hT hI))))
        | ((apply W.ret1); (iterate 2 (try (simp (disch := omega) only [push_cast, simprocAttr, hnI] <;> rfl))))

      all_goals first
        | (show _ = _; rfl)
        | (exfalso; omega)
    · have e : runE x = runT x.legs x.start x.micro := by unfold runE; rw [if_neg hn, if_neg hb]
      obtain ⟨RES, hRES⟩ : ∃ z, runT x.legs x.start x.micro = z := ⟨_, rfl⟩
      rw [e, hRES]
      simp only [not_or, Int.not_lt, Int.not_le] at hb
      obtain ⟨b1, b2, b3, b4⟩ := hb
      refine OKat.of_body (rs := [2]) Tryz.func15 rfl (by decide +kernel) rfl (by simp [Tryz.ntmps15]) ?_
      simp only [Tryz.ntmps15]
      repeat' first
        | apply jA | apply jB | apply jD | apply jE | apply jI
        | refine W.draw cx_mixed (by decide +kernel) ?_
        | ((first | (apply jK kO; decide) | (apply jL kO; decide; decide) | (apply jN; rfl; decide) | apply jR); (simp (disch := omega) only [push_cast, simprocAttr, hnI, b1, b2, b3, b4] <;> rfl); all_goals try ((with_reducible intro hI); try first | (cases hI; done) | (simp only [INTS, zL] at hI; try first | (exfalso; omega) | (have hT : True := hI; clear hT hI))))

      refine AW.loop (fun n s => ∃ (k : Nat) (T P : Int) (rest : List Leg), n = rest.length ∧ (x.legs.drop k = rest) ∧ (runT rest T P = RES) ∧ (0 ≤ T ∧ T ≤ 1073741823 + 36000 * (k : Int)) ∧ (0 ≤ P ∧ P ≤ 43200000000 + 39600000000 * (k : Int)) ∧ 1 ≤ s.nx ∧ s.tm 3 = ai 43200000000 ∧ s.tm 4 = ai T ∧ s.tm 5 = ai P ∧ s.tm 36 = lLeg x.legs ∧ s.tm 37 = ai x.legs.length ∧ s.tm 38 = ai k) (x.legs.length) ⟨0, x.start, x.micro, x.legs, rfl, rfl, hRES, ⟨b1, (by omega)⟩, ⟨b3, (by omega)⟩, ?_, ?_, ?_, ?_, ?_, ?_, ?_⟩ ?_
      iterate 7 (first | (simp (disch := omega) only [push_cast, simprocAttr, hnI, b1, b2, b3, b4] <;> first | rfl | omega) | omega)
      rintro n s ⟨k, T, P, rest, hn, hp0, hp1, hp2, hp3, hnl, hS⟩
      rcases rest with _ | ⟨y, rest⟩
      · have hk := drop_nil hp0
        unfold runT at hp1
        repeat' first
          | apply jA | apply jB | apply jC | apply jE | apply jF | apply jI
          | ((first | (apply jK kO; decide) | (apply jN; rfl; decide) | apply jR); (simp (disch := omega) only [push_cast, simprocAttr, hS, hk] <;> rfl); all_goals try ((with_reducible intro hI); try first | (cases hI; done) | (simp only [INTS, zL] at hI; try first | (exfalso; omega) | (have hT : True := hI; clear hT hI))))
          | ((apply W.ret1); (iterate 2 (try (simp (disch := omega) only [push_cast, simprocAttr, hS, hk] <;> rfl))))

        all_goals (show _ = _; rw [← hp1]; split <;> first | rfl | (exfalso; omega))
      · obtain ⟨hk, hg, hd', hl', hm, hx⟩ := drop_cons hp0 eLeg []
        have hk40 : (k : Int) ≤ 40 := by omega
        unfold runT at hp1
        by_cases hlg : legB y = true
        · obtain ⟨q1, q2, q3, q4, q5, q6⟩ := leg_bd hlg
          have q7 := legB_iff.1 hlg
          rw [if_pos hlg] at hp1
          repeat' first
            | apply jA | apply jB | apply jD | apply jE | apply jI
            | ((first | (apply jK kO; decide) | apply jM kO | (apply jN; rfl; decide) | apply jR); (simp (disch := omega) only [push_cast, simprocAttr, hS, hk, hg, hx] <;> rfl); all_goals try ((with_reducible intro hI); try first | (cases hI; done) | (simp only [INTS, zL] at hI; try first | (exfalso; omega) | (have hT : True := hI; clear hT hI))))
            | ((apply jP; rfl; decide); (simp (disch := omega) only [push_cast, simprocAttr, hS, hk, hg, hx] <;> rfl))

          all_goals first
            | (exfalso; omega)
            | (refine ⟨rest.length, ?_, k + 1, T + y.secs, P + y.secs * y.rate, rest, rfl, hd', hp1, (by omega), (by omega), ?_, ?_, ?_, ?_, ?_, ?_, ?_⟩; ((simp only [List.length_cons] at *; omega)); all_goals first | (simp (disch := omega) only [push_cast, simprocAttr, hS, hk, hg, hx] <;> first | rfl | omega) | omega)
        · have q7 : ¬ (1 ≤ y.secs ∧ y.secs ≤ 36000 ∧ (y.rate = 0 ∨ (900000 ≤ y.rate ∧ y.rate ≤ 1100000))) := fun h => hlg (legB_iff.2 h)
          rw [if_neg hlg] at hp1
          repeat' first
            | apply jA | apply jB | apply jC | apply jD | apply jE | apply jI
            | ((first | (apply jK kO; decide) | apply jM kO | (apply jN; rfl; decide) | apply jR); (simp (disch := omega) only [push_cast, simprocAttr, hS, hk, hg, hx] <;> rfl); all_goals try ((with_reducible intro hI); try first | (cases hI; done) | (simp only [INTS, zL] at hI; try first | (exfalso; omega) | (have hT : True := hI; clear hT hI))))
            | ((apply jP; rfl; decide); (simp (disch := omega) only [push_cast, simprocAttr, hS, hk, hg, hx] <;> rfl))
            | ((apply W.ret1); (iterate 2 (try (simp (disch := omega) only [push_cast, simprocAttr, hS, hk, hg, hx] <;> rfl))))

          all_goals first
            | (exfalso; omega)
            | (show _ = _; rw [← hp1])
theorem end_ok (x : Run) (hv : RunV x) : OKv cx 16 [.agg (eRun x)] (.tup [ai (x.start + sumT x.legs), ai (x.micro + sumP x.legs)]) := by
  have hn := hv.n
  obtain ⟨b1, b2⟩ := hv.start
  obtain ⟨b3, b4⟩ := hv.micro
  obtain ⟨TT, hT⟩ : ∃ z, x.start + sumT x.legs = z := ⟨_, rfl⟩
  obtain ⟨PP, hP⟩ : ∃ z, x.micro + sumP x.legs = z := ⟨_, rfl⟩
  rw [hT, hP]
  refine OKat.of_body (rs := [2, 3]) Tryz.func16 rfl (by decide +kernel) rfl (by simp [Tryz.ntmps16]) ?_
  simp only [Tryz.ntmps16]
  repeat' first
    | apply jA | apply jB | apply jD | apply jI
    | refine W.draw cx_mixed (by decide +kernel) ?_
    | ((first | (apply jK kO; decide) | (apply jL kO; decide; decide)); (simp (disch := omega) only [push_cast, simprocAttr, b1, b2, b3, b4] <;> rfl))

  refine AW.loop (fun n s => ∃ (k : Nat) (T P : Int) (rest : List Leg), n = rest.length ∧ (x.legs.drop k = rest) ∧ (T + sumT rest = TT ∧ P + sumP rest = PP) ∧ (0 ≤ T ∧ T ≤ 1073741823 + 36000 * (k : Int)) ∧ (0 ≤ P ∧ P ≤ 43200000000 + 39600000000 * (k : Int)) ∧ 1 ≤ s.nx ∧ s.tm 4 = ai T ∧ s.tm 5 = ai P ∧ s.tm 13 = lLeg x.legs ∧ s.tm 14 = ai x.legs.length ∧ s.tm 15 = ai k) (x.legs.length) ⟨0, x.start, x.micro, x.legs, rfl, rfl, ⟨hT, hP⟩, ⟨b1, (by omega)⟩, ⟨b3, (by omega)⟩, ?_, ?_, ?_, ?_, ?_, ?_⟩ ?_
  iterate 6 (first | (simp (disch := omega) only [push_cast, simprocAttr, b1, b2, b3, b4] <;> first | rfl | omega) | omega)
  rintro n s ⟨k, T, P, rest, hn, hp0, hp1, hp2, hp3, hnl, hS⟩
  obtain ⟨e1, e2⟩ := hp1
  rcases rest with _ | ⟨y, rest⟩
  · have hk := drop_nil hp0
    simp only [sumT, sumP, Int.add_zero] at e1 e2
    subst e1; subst e2
    repeat' first
      | apply jA | apply jB | apply jC | apply jF | apply jI
      | ((first | (apply jK kO; decide) | apply jR); (simp (disch := omega) only [push_cast, simprocAttr, hS, hk] <;> rfl); all_goals try ((with_reducible intro hI); try first | (cases hI; done) | (simp only [INTS, zL] at hI; try first | (exfalso; omega) | (have hT : True := hI; clear hT hI))))
      | ((apply W.ret2); (iterate 2 (try (simp (disch := omega) only [push_cast, simprocAttr, hS, hk] <;> rfl))))

    all_goals (show _ = _; rfl)
  · obtain ⟨hk, hg, hd', hl', hm, hx⟩ := drop_cons hp0 eLeg []
    obtain ⟨q1, q2, q3, q4, q5, q6⟩ := leg_bd (hv.legs y hm)
    have hk40 : (k : Int) ≤ 40 := by omega
    simp only [sumT, sumP] at e1 e2
    repeat' first
      | apply jA | apply jB | apply jD | apply jE | apply jI
      | ((first | (apply jK kO; decide) | apply jM kO | apply jR); (simp (disch := omega) only [push_cast, simprocAttr, hS, hk, hg, hx] <;> rfl); all_goals try ((with_reducible intro hI); try first | (cases hI; done) | (simp only [INTS, zL] at hI; try first | (exfalso; omega) | (have hT : True := hI; clear hT hI))))

    all_goals (refine ⟨rest.length, ?_, k + 1, T + y.secs, P + y.secs * y.rate, rest, rfl, hd', ⟨(by omega), (by omega)⟩, (by omega), (by omega), ?_, ?_, ?_, ?_, ?_, ?_⟩; ((simp only [List.length_cons] at *; omega)); all_goals first | (simp (disch := omega) only [push_cast, simprocAttr, hS, hk, hg, hx] <;> first | rfl | omega) | omega)
def needF : List Leg → Int → Int → Int
  | [], _, P => P
  | l :: r, F, P => needF r (F - min F l.secs) (P + min F l.secs * l.rate)
def needleP (x : Run) (t : Int) : Int × Int := if runE x = 0 then (if t < x.start ∨ x.start + sumT x.legs < t then (0, 3) else (needF x.legs (t - x.start) x.micro / 1000000, 0)) else (0, runE x)
theorem Needle_ok (x : Run) (t : Int) (hlen : x.legs.length ≤ 1099511627776) : OKv cx 20 [.agg (eRun x), ai t] (.tup [ai (needleP x t).1, ai (needleP x t).2]) := by
  unfold needleP
  have hch := CheckRun_ok x hlen
  by_cases hc : runE x = 0
  · have hv := runE_V hc
    have hend := end_ok x hv
    obtain ⟨b1, b2⟩ := hv.start
    obtain ⟨b3, b4⟩ := hv.micro
    have hn := hv.n
    have hti := hv.time
    obtain ⟨TT, hT⟩ : ∃ z, x.start + sumT x.legs = z := ⟨_, rfl⟩
    obtain ⟨PP, hP⟩ : ∃ z, x.micro + sumP x.legs = z := ⟨_, rfl⟩
    rw [hT, hP] at hend
    rw [hT] at hti ⊢
    rw [if_pos hc]
    by_cases ht : t < x.start ∨ TT < t
    · rw [if_pos ht]
      refine OKat.of_body (rs := [4, 5]) Tryz.func20 rfl (by decide +kernel) rfl (by simp [Tryz.ntmps20]) ?_
      simp only [Tryz.ntmps20]
      repeat' first
        | apply jA | apply jB | apply jC | apply jE | apply jI
        | ((first | (apply jK kO; decide) | (apply jN; rfl; decide) | apply jR); (simp (disch := omega) only [push_cast, simprocAttr, hc] <;> rfl); all_goals try ((with_reducible intro hI); try first | (cases hI; done) | (simp only [INTS, zL] at hI; try first | (exfalso; omega) | (have hT : True := hI; clear hT hI))))
        | ((apply jV kO; decide); (iterate 2 (simp (disch := omega) only [push_cast, simprocAttr, hc] <;> rfl)); (with_reducible first | exact hch | exact hend); try first | rfl | (simp (disch := omega) only [push_cast, simprocAttr, hc] <;> rfl))
        | ((apply W.ret2); (iterate 2 (try (simp (disch := omega) only [push_cast, simprocAttr, hc] <;> rfl))))

      all_goals first
        | (exfalso; omega)
        | (show _ = _; rfl)
    · rw [if_neg ht]
      simp only [not_or, Int.not_lt] at ht
      obtain ⟨t1, t2⟩ := ht
      obtain ⟨RES, hRES⟩ : ∃ z, needF x.legs (t - x.start) x.micro = z := ⟨_, rfl⟩
      rw [hRES]
      refine OKat.of_body (rs := [4, 5]) Tryz.func20 rfl (by decide +kernel) rfl (by simp [Tryz.ntmps20]) ?_
      simp only [Tryz.ntmps20]
      repeat' first
        | apply jA | apply jB | apply jD | apply jE | apply jI
        | refine W.draw cx_mixed (by decide +kernel) ?_
        | ((first | (apply jK kO; decide) | (apply jL kO; decide; decide) | (apply jN; rfl; decide) | apply jR); (simp (disch := omega) only [push_cast, simprocAttr, hc, t1, t2] <;> rfl); all_goals try ((with_reducible intro hI); try first | (cases hI; done) | (simp only [INTS, zL] at hI; try first | (exfalso; omega) | (have hT : True := hI; clear hT hI))))
        | ((apply jV kO; decide); (iterate 2 (simp (disch := omega) only [push_cast, simprocAttr, hc, t1, t2] <;> rfl)); (with_reducible first | exact hch | exact hend); try first | rfl | (simp (disch := omega) only [push_cast, simprocAttr, hc, t1, t2] <;> rfl))

      refine AW.loop (fun n s => ∃ (k : Nat) (F P : Int) (rest : List Leg), n = rest.length ∧ (x.legs.drop k = rest) ∧ (needF rest F P = RES) ∧ (0 ≤ F ∧ F ≤ 1073741823) ∧ (0 ≤ P ∧ P ≤ 43200000000 + 39600000000 * (k : Int)) ∧ (k ≤ x.legs.length) ∧ 1 ≤ s.nx ∧ s.tm 9 = ai F ∧ s.tm 10 = ai P ∧ s.tm 40 = lLeg x.legs ∧ s.tm 41 = ai x.legs.length ∧ s.tm 42 = ai k) (x.legs.length) ⟨0, (t - x.start), x.micro, x.legs, rfl, rfl, hRES, (by omega), ⟨b3, (by omega)⟩, (Nat.zero_le _), ?_, ?_, ?_, ?_, ?_, ?_⟩ ?_
      iterate 6 (first | (simp (disch := omega) only [push_cast, simprocAttr, hc, t1, t2] <;> first | rfl | omega) | omega)
      rintro n s ⟨k, F, P, rest, hn, hp0, hp1, hp2, hp3, hp4, hnl, hS⟩
      rcases rest with _ | ⟨y, rest⟩
      · have hk := drop_nil hp0
        unfold needF at hp1
        subst hp1
        repeat' first
          | apply jA | apply jB | apply jC | apply jF | apply jI
          | ((first | (apply jK kO; decide) | apply jR); (simp (disch := omega) only [push_cast, simprocAttr, hS, hk] <;> rfl); all_goals try ((with_reducible intro hI); try first | (cases hI; done) | (simp only [INTS, zL] at hI; try first | (exfalso; omega) | (have hT : True := hI; clear hT hI))))
          | ((apply W.ret2); (iterate 2 (try (simp (disch := omega) only [push_cast, simprocAttr, hS, hk] <;> rfl))))

        all_goals (show _ = _; rfl)
      · obtain ⟨hk, hg, hd', hl', hm, hx⟩ := drop_cons hp0 eLeg []
        obtain ⟨q1, q2, q3, q4, q5, q6⟩ := leg_bd (hv.legs y hm)
        have hk40 : (k : Int) ≤ 40 := by omega
        unfold needF at hp1
        obtain ⟨m1, m2⟩ := mul_bd (a := min F y.secs) (b := y.rate) (A := 36000) (B := 1100000) (by omega) (by omega) q3 q4
        obtain ⟨MN, hMN⟩ : ∃ z, min F y.secs = z := ⟨_, rfl⟩
        rw [hMN] at hp1 m1 m2
        repeat' first
          | apply jA | apply jB | apply jD | apply jE | apply jI
          | ((first | (apply jK kO; decide) | apply jM kO | apply jR); (simp (disch := omega) only [push_cast, simprocAttr, hS, hk, hg, hx, hMN] <;> rfl); all_goals try ((with_reducible intro hI); try first | (cases hI; done) | (simp only [INTS, zL] at hI; try first | (exfalso; omega) | (have hT : True := hI; clear hT hI))))

        all_goals (refine ⟨rest.length, ?_, k + 1, F - MN, P + MN * y.rate, rest, rfl, hd', hp1, (by omega), (by omega), (by omega), ?_, ?_, ?_, ?_, ?_, ?_⟩; ((simp only [List.length_cons] at *; omega)); all_goals first | (simp (disch := omega) only [push_cast, simprocAttr, hS, hk, hg, hx, hMN] <;> first | rfl | omega) | omega)
  · rw [if_neg hc]
    have hcF : (runE x = 0) = False := eq_false hc
    refine OKat.of_body (rs := [4, 5]) Tryz.func20 rfl (by decide +kernel) rfl (by simp [Tryz.ntmps20]) ?_
    simp only [Tryz.ntmps20]
    repeat' first
      | apply jA | apply jB | apply jC | apply jI
      | ((first | (apply jK kO; decide) | apply jR); (simp (disch := omega) only [push_cast, simprocAttr, hcF] <;> rfl); all_goals try ((with_reducible intro hI); try first | (cases hI; done) | (simp only [INTS, zL] at hI; try first | (exfalso; omega) | (have hT : True := hI; clear hT hI))))
      | ((apply jV kO; decide); (iterate 2 (simp (disch := omega) only [push_cast, simprocAttr, hcF] <;> rfl)); (with_reducible exact hch); try first | rfl | (simp (disch := omega) only [push_cast, simprocAttr, hcF] <;> rfl))
      | ((apply W.ret2); (iterate 2 (try (simp (disch := omega) only [push_cast, simprocAttr, hcF] <;> rfl))))

    all_goals (show _ = _; rfl)
end Go.Proofs.Ks

namespace Go.Proofs.Ks
open Go Go.Pg Go.Proofs Go.Proofs.Yt
abbrev ZM := List (Int × Int)
def getZ (k : Int) : ZM → Int
  | [] => 0
  | e :: m => if k = e.1 then e.2 else getZ k m
def putZ (k v : Int) : ZM → ZM
  | [] => [(k, v)]
  | e :: m => if k = e.1 then (k, v) :: m else e :: putZ k v m
def delZ (k : Int) : ZM → ZM
  | [] => []
  | e :: m => if k = e.1 then m else e :: delZ k m
def enZ (m : ZM) : List (Key × AV) := m.map fun e => (.int e.1, ai e.2)
theorem same_int (a b : Int) : Key.same (.int a) (.int b) = decide (a = b) := by
  simp only [Key.same]
  by_cases h : a = b
  · subst h; simp
  · simp [h]
theorem put_en (k v : Int) : ∀ m : ZM, putM (.int k) (ai v) (enZ m) = enZ (putZ k v m)
  | [] => rfl
  | e :: m => by
    show putM (.int k) (ai v) ((.int e.1, ai e.2) :: enZ m) = _
    unfold putM putZ
    rw [same_int, put_en k v m]
    by_cases h : k = e.1
    · simp [h, enZ]
    · simp [h, enZ]
theorem del_en (k : Int) : ∀ m : ZM, delM (.int k) (enZ m) = enZ (delZ k m)
  | [] => rfl
  | e :: m => by
    show delM (.int k) ((.int e.1, ai e.2) :: enZ m) = _
    unfold delM delZ
    rw [same_int, del_en k m]
    by_cases h : k = e.1
    · simp [h, enZ]
    · simp [h, enZ]
theorem find_en (k : Int) : ∀ m : ZM, pickM (.v (.int .i64 0)) false (findM (.int k) (enZ m)) = ai (getZ k m)
  | [] => rfl
  | e :: m => by
    show pickM (.v (.int .i64 0)) false (findM (.int k) ((.int e.1, ai e.2) :: enZ m)) = _
    unfold findM getZ
    rw [same_int]
    by_cases h : k = e.1
    · simp only [h, decide_true, if_true]; rfl
    · simp only [h, decide_false, if_false, Bool.false_eq_true]; exact find_en k m
theorem enZ_len (m : ZM) : (enZ m).length = m.length := by unfold enZ; rw [List.length_map]
theorem enZ_nil : enZ [] = [] := rfl
theorem get_put (q k v : Int) : ∀ m : ZM, getZ q (putZ k v m) = if q = k then v else getZ q m
  | [] => by simp only [putZ, getZ]
  | e :: m => by
    unfold putZ
    by_cases h : k = e.1
    · rw [if_pos h]
      simp only [getZ]
      by_cases h2 : q = k
      · rw [if_pos h2, if_pos h2]
      · rw [if_neg h2, if_neg h2, if_neg (by rw [← h]; exact h2)]
    · rw [if_neg h]
      simp only [getZ]
      rw [get_put q k v m]
      by_cases h2 : q = k
      · subst h2; rw [if_neg h, if_pos rfl, if_pos rfl]
      · rw [if_neg h2, if_neg h2]
theorem get_del {q k : Int} (h : q ≠ k) : ∀ m : ZM, getZ q (delZ k m) = getZ q m
  | [] => rfl
  | e :: m => by
    unfold delZ
    by_cases h1 : k = e.1
    · rw [if_pos h1]
      simp only [getZ]
      rw [if_neg (by rw [← h1]; exact h)]
    · rw [if_neg h1]
      simp only [getZ]
      rw [get_del h m]
def sumV : ZM → Int
  | [] => 0
  | e :: m => e.2 + sumV m
theorem sum_put (k v : Int) : ∀ m : ZM, sumV (putZ k v m) = sumV m - getZ k m + v
  | [] => by simp [putZ, getZ, sumV]
  | e :: m => by
    unfold putZ getZ
    by_cases h : k = e.1
    · rw [if_pos h, if_pos h]; simp only [sumV]; omega
    · rw [if_neg h, if_neg h]; simp only [sumV]; rw [sum_put k v m]; omega
theorem sum_del (k : Int) : ∀ m : ZM, sumV (delZ k m) = sumV m - getZ k m
  | [] => rfl
  | e :: m => by
    unfold delZ getZ
    by_cases h : k = e.1
    · rw [if_pos h, if_pos h]; simp only [sumV]; omega
    · rw [if_neg h, if_neg h]; simp only [sumV]; rw [sum_del k m]; omega
theorem mem_put {k v : Int} : ∀ {m : ZM} {e : Int × Int}, e ∈ putZ k v m → e = (k, v) ∨ e ∈ m
  | [], e, h => by simp [putZ] at h; exact .inl h
  | x :: m, e, h => by
    unfold putZ at h
    split at h
    · rcases List.mem_cons.1 h with h | h
      · exact .inl h
      · exact .inr (List.mem_cons_of_mem _ h)
    · rcases List.mem_cons.1 h with h | h
      · exact .inr (by simp [h])
      · rcases mem_put h with h | h
        · exact .inl h
        · exact .inr (List.mem_cons_of_mem _ h)
theorem mem_del {k : Int} : ∀ {m : ZM} {e : Int × Int}, e ∈ delZ k m → e ∈ m
  | x :: m, e, h => by
    unfold delZ at h
    split at h
    · exact List.mem_cons_of_mem _ h
    · rcases List.mem_cons.1 h with h | h
      · simp [h]
      · exact List.mem_cons_of_mem _ (mem_del h)
theorem sum_nn : ∀ {m : ZM}, (∀ e ∈ m, 0 < e.2) → 0 ≤ sumV m ∧ (sumV m = 0 → m = [])
  | [], _ => ⟨Int.le_refl _, fun _ => rfl⟩
  | e :: m, h => by
    have h1 := h e (by simp)
    have h2 := (sum_nn (m := m) fun x hx => h x (List.mem_cons_of_mem _ hx)).1
    simp only [sumV]
    exact ⟨by omega, fun h => by omega⟩
theorem get_nn {k : Int} : ∀ {m : ZM}, (∀ e ∈ m, 0 < e.2) → 0 ≤ getZ k m
  | [], _ => Int.le_refl _
  | e :: m, h => by
    unfold getZ
    split
    · have := h e (by simp); omega
    · exact get_nn fun x hx => h x (List.mem_cons_of_mem _ hx)
def legsF (rt : Span) : List Leg → Int → ZM → Option ZM
  | [], _, m => some m
  | l :: r, p, m => if l.rate = 0 then legsF rt r (p + l.secs * l.rate) (putZ (p / 1000000) (getZ (p / 1000000) m + l.secs) m) else if hasB rt l.rate = true then legsF rt r (p + l.secs * l.rate) m else none
def stopsF : List Stop → ZM → Option ZM
  | [], m => some m
  | t :: r, m => if hasB t.secs (getZ t.pos m) = true then stopsF r (delZ t.pos m) else none
def stoodZ : List Leg → Int → Int → Int
  | [], _, _ => 0
  | l :: r, p, q => (if l.rate = 0 ∧ p / 1000000 = q then l.secs else 0) + stoodZ r (p + l.secs * l.rate) q
def allZ : List Leg → Int
  | [] => 0
  | l :: r => (if l.rate = 0 then l.secs else 0) + allZ r
def ratesB (rt : Span) (l : List Leg) : Bool := l.all fun y => decide (y.rate = 0) || hasB rt y.rate
def stopsB (legs : List Leg) (p : Int) (l : List Stop) : Bool := l.all fun t => hasB t.secs (stoodZ legs p t.pos)
def sumS2 (legs : List Leg) (p : Int) : List Stop → Int
  | [] => 0
  | t :: r => stoodZ legs p t.pos + sumS2 legs p r
theorem legsF_spec (rt : Span) : ∀ (l : List Leg) (p : Int) (m : ZM), (∀ y ∈ l, 1 ≤ y.secs) → (∀ e ∈ m, 0 < e.2) →
    (ratesB rt l = false ∧ legsF rt l p m = none) ∨ (ratesB rt l = true ∧ ∃ m', legsF rt l p m = some m' ∧ (∀ q, getZ q m' = getZ q m + stoodZ l p q) ∧ sumV m' = sumV m + allZ l ∧ ∀ e ∈ m', 0 < e.2)
  | [], p, m, _, hm => .inr ⟨rfl, m, rfl, fun q => by simp [stoodZ], by simp [allZ], hm⟩
  | y :: l, p, m, hl, hm => by
    have hy := hl y (by simp)
    have hl' : ∀ z ∈ l, 1 ≤ z.secs := fun z hz => hl z (List.mem_cons_of_mem _ hz)
    unfold legsF
    by_cases h0 : y.rate = 0
    · rw [if_pos h0]
      have hm2 : ∀ e ∈ putZ (p / 1000000) (getZ (p / 1000000) m + y.secs) m, 0 < e.2 := fun e he => by
        rcases mem_put he with rfl | he
        · have := get_nn (k := p / 1000000) hm
          show 0 < getZ (p / 1000000) m + y.secs
          omega
        · exact hm e he
      have hr : ratesB rt (y :: l) = ratesB rt l := by simp [ratesB, h0]
      rw [hr]
      rcases legsF_spec rt l (p + y.secs * y.rate) _ hl' hm2 with ⟨h1, h2⟩ | ⟨h1, m', h2, h3, h4, h5⟩
      · exact .inl ⟨h1, h2⟩
      · refine .inr ⟨h1, m', h2, fun q => ?_, ?_, h5⟩
        · rw [h3, get_put]
          simp only [stoodZ]
          by_cases hq : q = p / 1000000
          · subst hq; rw [if_pos rfl, if_pos ⟨h0, rfl⟩]; omega
          · rw [if_neg hq, if_neg (fun h => hq h.2.symm)]; omega
        · rw [h4, sum_put]; simp only [allZ]; rw [if_pos h0]; omega
    · rw [if_neg h0]
      cases hh : hasB rt y.rate with
      | false => exact .inl ⟨by simp [ratesB, h0, hh], by simp⟩
      | true =>
        have hr : ratesB rt (y :: l) = ratesB rt l := by simp [ratesB, hh]
        rw [hr, if_pos rfl]
        rcases legsF_spec rt l (p + y.secs * y.rate) m hl' hm with ⟨h1, h2⟩ | ⟨h1, m', h2, h3, h4, h5⟩
        · exact .inl ⟨h1, h2⟩
        · refine .inr ⟨h1, m', h2, fun q => ?_, ?_, h5⟩
          · rw [h3]; simp only [stoodZ]; rw [if_neg (fun h => h0 h.1)]; omega
          · rw [h4]; simp only [allZ]; rw [if_neg h0]; omega
theorem stopsF_spec {legs : List Leg} {p : Int} : ∀ (l : List Stop) (m : ZM), l.Pairwise (fun a b => a.pos ≠ b.pos) → (∀ t ∈ l, getZ t.pos m = stoodZ legs p t.pos) → (∀ e ∈ m, 0 < e.2) →
    (stopsB legs p l = false ∧ stopsF l m = none) ∨ (stopsB legs p l = true ∧ ∃ m', stopsF l m = some m' ∧ sumV m' = sumV m - sumS2 legs p l ∧ ∀ e ∈ m', 0 < e.2)
  | [], m, _, _, hm => .inr ⟨rfl, m, rfl, by simp [sumS2], hm⟩
  | t :: l, m, hd, hg, hm => by
    rw [List.pairwise_cons] at hd
    have ht := hg t (by simp)
    unfold stopsF
    rw [ht]
    cases hh : hasB t.secs (stoodZ legs p t.pos) with
    | false => exact .inl ⟨by simp [stopsB, hh], by simp⟩
    | true =>
      have hr : stopsB legs p (t :: l) = stopsB legs p l := by simp [stopsB, hh]
      rw [hr, if_pos rfl]
      rcases stopsF_spec l (delZ t.pos m) hd.2 (fun u hu => by rw [get_del (fun e => hd.1 u hu e.symm)]; exact hg u (List.mem_cons_of_mem _ hu)) (fun e he => hm e (mem_del he)) with ⟨h1, h2⟩ | ⟨h1, m', h2, h3, h4⟩
      · exact .inl ⟨h1, h2⟩
      · refine .inr ⟨h1, m', h2, ?_, h4⟩
        rw [h3, sum_del, ht]; simp only [sumS2]; omega
def endsB (s : Session) (x : Run) : Bool := hasB s.inn x.start && (hasB s.out (x.start + sumT x.legs) && (hasB s.zero (x.micro / 1000000) && hasB s.fin ((x.micro + sumP x.legs) / 1000000)))
def playsB (s : Session) (x : Run) : Bool := endsB s x && (ratesB s.rate x.legs && (stopsB x.legs x.micro s.stops && decide (allZ x.legs - sumS2 x.legs x.micro s.stops = 0)))
def playsM (s : Session) (x : Run) : Bool :=
  endsB s x && match legsF s.rate x.legs x.micro [] with
    | some m => match stopsF s.stops m with
      | some m' => decide (m'.length = 0)
      | none => false
    | none => false
theorem plays_same {s : Session} {x : Run} (hd : s.stops.Pairwise (fun a b => a.pos ≠ b.pos)) (hl : ∀ y ∈ x.legs, 1 ≤ y.secs) : playsM s x = playsB s x := by
  unfold playsM playsB
  congr 1
  rcases legsF_spec s.rate x.legs x.micro [] hl (fun e h => by cases h) with ⟨h1, h2⟩ | ⟨h1, m, h2, h3, h4, h5⟩
  · rw [h1, h2, Bool.false_and]
  · rw [h1, h2, Bool.true_and]
    dsimp only
    rcases stopsF_spec (legs := x.legs) (p := x.micro) s.stops m hd (fun t _ => by rw [h3]; simp [getZ]) h5 with ⟨g1, g2⟩ | ⟨g1, m', g2, g3, g4⟩
    · rw [g1, g2, Bool.false_and]
    · rw [g1, g2, Bool.true_and]
      dsimp only
      have h40 : sumV m = allZ x.legs := by rw [h4]; simp [sumV]
      rw [h40] at g3
      rw [← g3]
      refine decide_eq_decide.2 ⟨fun h => ?_, fun h => ?_⟩
      · rw [List.length_eq_zero_iff.1 h]; rfl
      · rw [(sum_nn g4).2 h]; rfl
end Go.Proofs.Ks

namespace Go.Proofs.Ks
open Go Go.Proofs
theorem checkE_parts {r : Rec} (h : checkE r = 0) : sessE r.s = 0 ∧ r.strikes.length ≤ 12 ∧ r.sights.length ≤ 12 ∧ strikesE r.s.zero.lo r.s.fin.hi [] r.strikes = 0 ∧ sightsE (idsOf r) r.sights = 0 := by
  unfold checkE at h
  split at h
  · rename_i hn; exact absurd h hn
  · rename_i h0
    simp only [ne_eq, Decidable.not_not] at h0
    split at h
    · cases h
    · rename_i h1
      split at h
      · rename_i hn; exact absurd h hn
      · rename_i h2
        simp only [ne_eq, Decidable.not_not] at h2
        exact ⟨h0, by omega, by omega, h2, h⟩
theorem checkE_of {r : Rec} (h1 : sessE r.s = 0) (h2 : r.strikes.length ≤ 12) (h3 : r.sights.length ≤ 12) (h4 : strikesE r.s.zero.lo r.s.fin.hi [] r.strikes = 0) (h5 : sightsE (idsOf r) r.sights = 0) : checkE r = 0 := by
  unfold checkE
  rw [if_neg (by simp [h1]), if_neg (by omega), if_neg (by simp [h4]), h5]
end Go.Proofs.Ks

namespace Go.Proofs.Ks
open Go Go.Pg Go.Proofs Go.Proofs.Yt
def lkAt (L : List Lk) (k : Int) : Lk := L.getD k.toNat ⟨0, 0, 0⟩
end Go.Proofs.Ks
