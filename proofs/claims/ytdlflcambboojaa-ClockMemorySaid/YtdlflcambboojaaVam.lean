/-
  Contracts of functions, proved by going through their code. No conditions.
-/
import Derived.Test.YtdlflcambboojaaVaa
import Derived.Test.YtdlflcambboojaaVaj
import Derived.Test.YtdlflcambboojaaVal
set_option linter.unusedVariables false
set_option linter.unusedSimpArgs false
set_option maxHeartbeats 8000000
set_option maxRecDepth 10000
namespace Go.Proofs.Ks
open Go Go.Pg Go.Proofs
theorem take_ids {l : List Strike} {k : Nat} {x : Strike} {rest : List Strike} (h : l.drop k = x :: rest) : (l.take k).map (·.id) ++ [x.id] = (l.take (k + 1)).map (·.id) := by
  have h2 : l[k]? = some x := by
    have := congrArg (fun m => m[0]?) h
    simpa using this
  rw [List.take_add_one, h2]; simp
theorem Check_ok (r0 : Rec) : OKv cx 33 [.agg (eRec r0)] (ai (checkE r0)) := by
  by_cases hs : sessE r0.s = 0
  · have hs0 : (sessE r0.s = 0) = True := eq_true hs
    by_cases h12 : 12 < r0.strikes.length ∨ 12 < r0.sights.length
    · have e : checkE r0 = 2 := by unfold checkE; rw [if_neg (by simp [hs]), if_pos h12]
      rw [e]
      refine OKat.of_body (rs := [2]) Try.func33 rfl (by decide +kernel) rfl (by simp [Try.ntmps33]) ?_
      simp only [Try.ntmps33]
      repeat' first
        | apply jA | apply jB | apply jC | apply jD | apply jE | apply jF | apply jG | apply jH | apply jI
        | ((first | (apply jK cx_ok; decide) | apply jM cx_ok | (apply jN; rfl; decide) | apply jR | apply jS cx_ok); (simp (disch := omega) only [push_cast, simprocAttr, hs] <;> rfl); all_goals try ((with_reducible intro hI); try first | (cases hI; done) | (simp only [INTS, zL] at hI; try first | (exfalso; omega) | (have hT : True := hI; clear hT hI))))
        | (refine W.makeMap cx_ok (by simp only [push_cast, simprocAttr] <;> rfl) (by decide) ?_)
        | ((apply jV cx_ok; decide); (iterate 2 (simp (disch := omega) only [push_cast, simprocAttr, hs] <;> rfl)); (with_reducible first | exact checkSession_ok r0.s); try first | rfl | (simp (disch := omega) only [push_cast, simprocAttr, hs] <;> rfl))
        | ((first | apply jf | apply jg); (iterate 2 (try (simp (disch := omega) only [push_cast, simprocAttr, hs] <;> rfl))))
      all_goals first | (show _ = _; rfl) | (exfalso; omega)
    · have h12a : ¬ (12 : Int) < (r0.strikes.length : Int) := by omega
      have h12b : ¬ (12 : Int) < (r0.sights.length : Int) := by omega
      obtain ⟨E1, hE1⟩ : ∃ x, strikesE r0.s.zero.lo r0.s.fin.hi [] r0.strikes = x := ⟨_, rfl⟩
      obtain ⟨E2, hE2⟩ : ∃ x, sightsE (idsOf r0) r0.sights = x := ⟨_, rfl⟩
      have e : checkE r0 = if E1 ≠ 0 then E1 else E2 := by unfold checkE; rw [if_neg (by simp [hs]), if_neg h12, hE1, hE2]
      rw [e]
      refine OKat.of_body (rs := [2]) Try.func33 rfl (by decide +kernel) rfl (by simp [Try.ntmps33]) ?_
      simp only [Try.ntmps33]
      repeat' first
        | apply jA | apply jB | apply jC | apply jD | apply jE | apply jF | apply jG | apply jH | apply jI
        | ((first | (apply jK cx_ok; decide) | apply jM cx_ok | (apply jN; rfl; decide) | apply jR | apply jS cx_ok); (simp (disch := omega) only [push_cast, simprocAttr, hs, h12a, h12b] <;> rfl); all_goals try ((with_reducible intro hI); try first | (cases hI; done) | (simp only [INTS, zL] at hI; try first | (exfalso; omega) | (have hT : True := hI; clear hT hI))))
        | (refine W.makeMap cx_ok (by simp only [push_cast, simprocAttr] <;> rfl) (by decide) ?_)
        | ((apply jV cx_ok; decide); (iterate 2 (simp (disch := omega) only [push_cast, simprocAttr, hs, h12a, h12b] <;> rfl)); (with_reducible first | exact checkSession_ok r0.s); try first | rfl | (simp (disch := omega) only [push_cast, simprocAttr, hs, h12a, h12b] <;> rfl))
        | ((first | apply jf | apply jg); (iterate 2 (try (simp (disch := omega) only [push_cast, simprocAttr, hs, h12a, h12b] <;> rfl))))
      refine AW.loop (fun n s => ∃ (k : Nat) (rest : List Strike), n = rest.length ∧ (r0.strikes.drop k = rest) ∧ (strikesE r0.s.zero.lo r0.s.fin.hi ((r0.strikes.take k).map (·.id)) rest = E1) ∧ 2 ≤ s.nx ∧ s.tm 1 = .ptr 0 0 0 1 ∧ s.tm 4 = .map 1 ∧ s.tm 27 = lStrike r0.strikes ∧ s.tm 28 = ai r0.strikes.length ∧ s.tm 29 = ai k ∧ Pg.rowAt s.H (0) = some ({ k := 14, es := [eRec r0], ty := 30 }) ∧ s.H (1) = some (.mp (.map .int) 0 (seenM ((r0.strikes.take k).map (·.id))))) (r0.strikes.length) ⟨0, r0.strikes, rfl, rfl, hE1, ?_, ?_, ?_, ?_, ?_, ?_, ?_, ?_⟩ ?_
      iterate 8 (first | (simp (disch := omega) only [push_cast, simprocAttr, hs, h12a, h12b, List.take_zero, zW, seenM] <;> first | rfl | omega) | omega)
      rintro n s ⟨k, rest, hn, hp0, hp1, hnl, hS⟩
      have hZ : (0 : Nat) ≠ s.nx ∧ s.nx ≠ (0 : Nat) ∧ (1 : Nat) ≠ s.nx ∧ s.nx ≠ (1 : Nat) := by omega
      rcases rest with _ | ⟨x, rest⟩
      · have hk := drop_nil hp0
        have hE : E1 = 0 := by rw [← hp1]; rfl
        have hall : (r0.strikes.take k).map (·.id) = idsOf r0 := by rw [List.take_of_length_le (by omega)]; rfl
        rw [if_neg (by simp [hE])]
        rw [hall] at hS
        repeat' first
          | apply jA | apply jB | apply jC | apply jD | apply jE | apply jF | apply jG | apply jH | apply jI
          | ((first | (apply jK cx_ok; decide) | apply jM cx_ok | (apply jN; rfl; decide) | apply jR | apply jS cx_ok); (simp (disch := omega) only [push_cast, simprocAttr, hS, hZ, hk] <;> rfl); all_goals try ((with_reducible intro hI); try first | (cases hI; done) | (simp only [INTS, zL] at hI; try first | (exfalso; omega) | (have hT : True := hI; clear hT hI))))
          | (refine W.makeMap cx_ok (by simp only [push_cast, simprocAttr] <;> rfl) (by decide) ?_)
          | ((first | apply jf | apply jg); (iterate 2 (try (simp (disch := omega) only [push_cast, simprocAttr, hS, hZ, hk] <;> rfl))))
        refine AW.loop (fun n s => ∃ (k : Nat) (rest : List Sight), n = rest.length ∧ (r0.sights.drop k = rest) ∧ (sightsE (idsOf r0) rest = E2) ∧ 2 ≤ s.nx ∧ s.tm 1 = .ptr 0 0 0 1 ∧ s.tm 4 = .map 1 ∧ s.tm 64 = lSight r0.sights ∧ s.tm 65 = ai r0.sights.length ∧ s.tm 66 = ai k ∧ Pg.rowAt s.H (0) = some ({ k := 14, es := [eRec r0], ty := 30 }) ∧ s.H (1) = some (.mp (.map .int) 0 (seenM (idsOf r0)))) (r0.sights.length) ⟨0, r0.sights, rfl, rfl, hE2, ?_, ?_, ?_, ?_, ?_, ?_, ?_, ?_⟩ ?_
        iterate 8 (first | (simp (disch := omega) only [push_cast, simprocAttr, hS, hZ, hk] <;> first | rfl | omega) | omega)
        rintro n1 s1 ⟨k1, rest1, hn1, hp01, hp11, hnl1, hS1⟩
        have hZ1 : (0 : Nat) ≠ s1.nx ∧ s1.nx ≠ (0 : Nat) ∧ (1 : Nat) ≠ s1.nx ∧ s1.nx ≠ (1 : Nat) := by omega
        rcases rest1 with _ | ⟨y, rest1⟩
        · have hk1 := drop_nil hp01
          repeat' first
            | apply jA | apply jB | apply jC | apply jD | apply jE | apply jF | apply jG | apply jH | apply jI
            | ((first | (apply jK cx_ok; decide) | apply jM cx_ok | (apply jN; rfl; decide) | apply jR | apply jS cx_ok); (simp (disch := omega) only [push_cast, simprocAttr, hS1, hZ1, hk1] <;> rfl); all_goals try ((with_reducible intro hI); try first | (cases hI; done) | (simp only [INTS, zL] at hI; try first | (exfalso; omega) | (have hT : True := hI; clear hT hI))))
            | (refine W.makeMap cx_ok (by simp only [push_cast, simprocAttr] <;> rfl) (by decide) ?_)
            | ((first | apply jf | apply jg); (iterate 2 (try (simp (disch := omega) only [push_cast, simprocAttr, hS1, hZ1, hk1] <;> rfl))))
          all_goals (show _ = _; rw [← hp11]; rfl)
        · obtain ⟨hk1, hg1, hd1, hl1, hm1, hx1⟩ := drop_cons hp01 eSight []
          by_cases hq : inB y.seen 0 1073741823 = true
          · by_cases hq2 : y.strike ∈ idsOf r0
            · rw [sightsE, if_pos hq, if_pos hq2] at hp11
              repeat' first
                | apply jA | apply jB | apply jC | apply jD | apply jE | apply jF | apply jG | apply jH | apply jI
                | ((first | (apply jK cx_ok; decide) | apply jM cx_ok | (apply jN; rfl; decide) | apply jR | apply jS cx_ok); (simp (disch := omega) only [push_cast, simprocAttr, hS1, hZ1, hk1, hg1, hx1, hq, hq2, seen_look] <;> rfl); all_goals try ((with_reducible intro hI); try first | (cases hI; done) | (simp only [INTS, zL] at hI; try first | (exfalso; omega) | (have hT : True := hI; clear hT hI))))
                | (refine W.makeMap cx_ok (by simp only [push_cast, simprocAttr] <;> rfl) (by decide) ?_)
                | ((apply jV cx_ok; decide); (iterate 2 (simp (disch := omega) only [push_cast, simprocAttr, hS1, hZ1, hk1, hg1, hx1, hq, hq2, seen_look] <;> rfl)); (with_reducible first | exact within_ok _ _ _); try first | rfl | (simp (disch := omega) only [push_cast, simprocAttr, hS1, hZ1, hk1, hg1, hx1, hq, hq2, seen_look] <;> rfl))
                | ((first | apply jf | apply jg); (iterate 2 (try (simp (disch := omega) only [push_cast, simprocAttr, hS1, hZ1, hk1, hg1, hx1, hq, hq2, seen_look] <;> rfl))))
              all_goals (refine ⟨rest1.length, ?_, k1 + 1, rest1, rfl, hd1, hp11, ?_, ?_, ?_, ?_, ?_, ?_, ?_, ?_⟩; ((simp only [zD] at *; omega)); all_goals first | (simp (disch := omega) only [push_cast, simprocAttr, hS1, hZ1, hk1, hg1, hx1, hq, hq2, seen_look] <;> first | rfl | omega) | omega)
            · rw [sightsE, if_pos hq, if_neg hq2] at hp11
              repeat' first
                | apply jA | apply jB | apply jC | apply jD | apply jE | apply jF | apply jG | apply jH | apply jI
                | ((first | (apply jK cx_ok; decide) | apply jM cx_ok | (apply jN; rfl; decide) | apply jR | apply jS cx_ok); (simp (disch := omega) only [push_cast, simprocAttr, hS1, hZ1, hk1, hg1, hx1, hq, hq2, seen_look] <;> rfl); all_goals try ((with_reducible intro hI); try first | (cases hI; done) | (simp only [INTS, zL] at hI; try first | (exfalso; omega) | (have hT : True := hI; clear hT hI))))
                | (refine W.makeMap cx_ok (by simp only [push_cast, simprocAttr] <;> rfl) (by decide) ?_)
                | ((apply jV cx_ok; decide); (iterate 2 (simp (disch := omega) only [push_cast, simprocAttr, hS1, hZ1, hk1, hg1, hx1, hq, hq2, seen_look] <;> rfl)); (with_reducible first | exact within_ok _ _ _); try first | rfl | (simp (disch := omega) only [push_cast, simprocAttr, hS1, hZ1, hk1, hg1, hx1, hq, hq2, seen_look] <;> rfl))
                | ((first | apply jf | apply jg); (iterate 2 (try (simp (disch := omega) only [push_cast, simprocAttr, hS1, hZ1, hk1, hg1, hx1, hq, hq2, seen_look] <;> rfl))))
              all_goals (show _ = _; rw [← hp11])
          · rw [sightsE, if_neg hq] at hp11
            have hq' : inB y.seen 0 1073741823 = false := by simpa using hq
            repeat' first
              | apply jA | apply jB | apply jC | apply jD | apply jE | apply jF | apply jG | apply jH | apply jI
              | ((first | (apply jK cx_ok; decide) | apply jM cx_ok | (apply jN; rfl; decide) | apply jR | apply jS cx_ok); (simp (disch := omega) only [push_cast, simprocAttr, hS1, hZ1, hk1, hg1, hx1, hq'] <;> rfl); all_goals try ((with_reducible intro hI); try first | (cases hI; done) | (simp only [INTS, zL] at hI; try first | (exfalso; omega) | (have hT : True := hI; clear hT hI))))
              | (refine W.makeMap cx_ok (by simp only [push_cast, simprocAttr] <;> rfl) (by decide) ?_)
              | ((apply jV cx_ok; decide); (iterate 2 (simp (disch := omega) only [push_cast, simprocAttr, hS1, hZ1, hk1, hg1, hx1, hq'] <;> rfl)); (with_reducible first | exact within_ok _ _ _); try first | rfl | (simp (disch := omega) only [push_cast, simprocAttr, hS1, hZ1, hk1, hg1, hx1, hq'] <;> rfl))
              | ((first | apply jf | apply jg); (iterate 2 (try (simp (disch := omega) only [push_cast, simprocAttr, hS1, hZ1, hk1, hg1, hx1, hq'] <;> rfl))))
            all_goals (show _ = _; rw [← hp11])
      · obtain ⟨hk, hg, hd', hl', hm, hx⟩ := drop_cons hp0 eStrike []
        by_cases hq : strikeB r0.s.zero.lo r0.s.fin.hi x = true
        · have hqq := hq
          unfold strikeB at hqq
          simp only [Bool.and_eq_true, decide_eq_true_eq] at hqq
          have q1 := hqq.1.1
          have q2 := hqq.1.2
          have q3 := hqq.2
          by_cases hq2 : x.id ∈ (r0.strikes.take k).map (·.id)
          · rw [strikesE, if_pos hq, if_pos hq2] at hp1
            rw [← hp1, if_pos (by decide)]
            repeat' first
              | apply jA | apply jB | apply jC | apply jD | apply jE | apply jF | apply jG | apply jH | apply jI
              | ((first | (apply jK cx_ok; decide) | apply jM cx_ok | (apply jN; rfl; decide) | apply jR | apply jS cx_ok); (simp (disch := omega) only [push_cast, simprocAttr, hS, hZ, hk, hg, hx, q1, q2, q3, hq2, seen_look] <;> rfl); all_goals try ((with_reducible intro hI); try first | (cases hI; done) | (simp only [INTS, zL] at hI; try first | (exfalso; omega) | (have hT : True := hI; clear hT hI))))
              | (refine W.makeMap cx_ok (by simp only [push_cast, simprocAttr] <;> rfl) (by decide) ?_)
              | ((apply jV cx_ok; decide); (iterate 2 (simp (disch := omega) only [push_cast, simprocAttr, hS, hZ, hk, hg, hx, q1, q2, q3, hq2, seen_look] <;> rfl)); (with_reducible first | exact within_ok _ _ _); try first | rfl | (simp (disch := omega) only [push_cast, simprocAttr, hS, hZ, hk, hg, hx, q1, q2, q3, hq2, seen_look] <;> rfl))
              | ((first | apply jf | apply jg); (iterate 2 (try (simp (disch := omega) only [push_cast, simprocAttr, hS, hZ, hk, hg, hx, q1, q2, q3, hq2, seen_look] <;> rfl))))
            all_goals (show _ = _; rfl)
          · rw [strikesE, if_pos hq, if_neg hq2, take_ids hp0] at hp1
            have hput := seen_put x.id _ hq2
            rw [take_ids hp0] at hput
            repeat' first
              | apply jA | apply jB | apply jC | apply jD | apply jE | apply jF | apply jG | apply jH | apply jI
              | ((first | (apply jK cx_ok; decide) | apply jM cx_ok | (apply jN; rfl; decide) | apply jR | apply jS cx_ok); (simp (disch := omega) only [push_cast, simprocAttr, hS, hZ, hk, hg, hx, q1, q2, q3, hq2, seen_look, hput] <;> rfl); all_goals try ((with_reducible intro hI); try first | (cases hI; done) | (simp only [INTS, zL] at hI; try first | (exfalso; omega) | (have hT : True := hI; clear hT hI))))
              | (refine W.makeMap cx_ok (by simp only [push_cast, simprocAttr] <;> rfl) (by decide) ?_)
              | ((apply jV cx_ok; decide); (iterate 2 (simp (disch := omega) only [push_cast, simprocAttr, hS, hZ, hk, hg, hx, q1, q2, q3, hq2, seen_look, hput] <;> rfl)); (with_reducible first | exact within_ok _ _ _); try first | rfl | (simp (disch := omega) only [push_cast, simprocAttr, hS, hZ, hk, hg, hx, q1, q2, q3, hq2, seen_look, hput] <;> rfl))
              | ((first | apply jf | apply jg); (iterate 2 (try (simp (disch := omega) only [push_cast, simprocAttr, hS, hZ, hk, hg, hx, q1, q2, q3, hq2, seen_look, hput] <;> rfl))))
            all_goals (refine ⟨rest.length, ?_, k + 1, rest, rfl, hd', hp1, ?_, ?_, ?_, ?_, ?_, ?_, ?_, ?_⟩; ((simp only [zD] at *; omega)); all_goals first | (simp (disch := omega) only [push_cast, simprocAttr, hS, hZ, hk, hg, hx, q1, q2, q3, hq2, seen_look, hput] <;> first | rfl | omega) | omega)
        · rw [strikesE, if_neg hq] at hp1
          rw [← hp1, if_pos (by decide)]
          repeat' first
            | apply jA | apply jB | apply jC | apply jD | apply jE | apply jF | apply jG | apply jH | apply jI
            | ((first | (apply jK cx_ok; decide) | apply jM cx_ok | (apply jN; rfl; decide) | apply jR | apply jS cx_ok); (simp (disch := omega) only [push_cast, simprocAttr, hS, hZ, hk, hg, hx] <;> rfl); all_goals try ((with_reducible intro hI); try first | (cases hI; done) | (simp only [INTS, zL] at hI; try first | (exfalso; omega) | (have hT : True := hI; clear hT hI))))
            | (refine W.makeMap cx_ok (by simp only [push_cast, simprocAttr] <;> rfl) (by decide) ?_)
            | ((apply jV cx_ok; decide); (iterate 2 (simp (disch := omega) only [push_cast, simprocAttr, hS, hZ, hk, hg, hx] <;> rfl)); (with_reducible first | exact within_ok _ _ _); try first | rfl | (simp (disch := omega) only [push_cast, simprocAttr, hS, hZ, hk, hg, hx] <;> rfl))
            | ((first | apply jf | apply jg); (iterate 2 (try (simp (disch := omega) only [push_cast, simprocAttr, hS, hZ, hk, hg, hx] <;> rfl))))
          all_goals first | (show _ = _; rfl) | (exfalso; apply hq; unfold strikeB; simp only [Bool.and_eq_true, decide_eq_true_eq]; exact ⟨⟨by omega, by omega⟩, by assumption⟩)
  · have e : checkE r0 = sessE r0.s := if_pos hs
    rw [e]
    refine OKat.of_body (rs := [2]) Try.func33 rfl (by decide +kernel) rfl (by simp [Try.ntmps33]) ?_
    simp only [Try.ntmps33]
    repeat' first
      | apply jA | apply jB | apply jC | apply jD | apply jE | apply jF | apply jG | apply jH | apply jI
      | ((first | (apply jK cx_ok; decide) | apply jM cx_ok | (apply jN; rfl; decide) | apply jR | apply jS cx_ok); (simp (disch := omega) only [push_cast, simprocAttr, hs] <;> rfl); all_goals try ((with_reducible intro hI); try first | (cases hI; done) | (simp only [INTS, zL] at hI; try first | (exfalso; omega) | (have hT : True := hI; clear hT hI))))
      | (refine W.makeMap cx_ok (by simp only [push_cast, simprocAttr] <;> rfl) (by decide) ?_)
      | ((apply jV cx_ok; decide); (iterate 2 (simp (disch := omega) only [push_cast, simprocAttr, hs] <;> rfl)); (with_reducible first | exact checkSession_ok r0.s); try first | rfl | (simp (disch := omega) only [push_cast, simprocAttr, hs] <;> rfl))
      | ((first | apply jf | apply jg); (iterate 2 (try (simp (disch := omega) only [push_cast, simprocAttr, hs] <;> rfl))))
    all_goals (show _ = _; rfl)
end Go.Proofs.Ks

namespace Go.Proofs.Ks
open Go Go.Pg Go.Proofs
theorem strikeI_case (n : Int) : ∀ (l : List Strike) (j : Nat), (¬ n ∈ l.map (·.id) ∧ strikeI n j l = -1) ∨ ∃ i, i < l.length ∧ strikeI n j l = ((j + i : Nat) : Int) ∧ (l.getD i default).id = n ∧ ¬ n ∈ (l.take i).map (·.id)
  | [], j => .inl ⟨by simp, rfl⟩
  | x :: l, j => by
    unfold strikeI
    by_cases h : x.id = n
    · rw [if_pos h]; exact .inr ⟨0, by simp, rfl, by simpa using h, by simp⟩
    · rw [if_neg h]
      rcases strikeI_case n l (j + 1) with ⟨h1, h2⟩ | ⟨i, h1, h2, h3, h4⟩
      · refine .inl ⟨?_, h2⟩
        simp only [zX, zI, not_or]
        exact ⟨fun e => h e.symm, h1⟩
      · refine .inr ⟨i + 1, by simp; omega, by rw [h2, show j + 1 + i = j + (i + 1) by omega], by simpa using h3, ?_⟩
        simp only [List.take_succ_cons, zX, zI, not_or]
        exact ⟨fun e => h e.symm, h4⟩
theorem strikeI_lt {n : Int} {l : List Strike} {k : Nat} (h : n ∈ (l.take k).map (·.id)) : strikeI n 0 l < (k : Int) ∧ 0 ≤ strikeI n 0 l := by
  rcases strikeI_case n l 0 with ⟨h1, _⟩ | ⟨i, h1, h2, h3, h4⟩
  · exfalso; apply h1
    obtain ⟨x, hx, e⟩ := List.mem_map.1 h
    exact List.mem_map.2 ⟨x, List.mem_of_mem_take hx, e⟩
  · rw [h2]
    have : i < k := by
      rcases Nat.lt_or_ge i k with h' | h'
      · exact h'
      · exfalso; apply h4
        obtain ⟨x, hx, e⟩ := List.mem_map.1 h
        exact List.mem_map.2 ⟨x, (List.take_subset_take_left _ h') hx, e⟩
    omega
end Go.Proofs.Ks

namespace Go.Pg
open Go Go.RowKit
section
variable {B0 : Nat} {S0 : Fr} {w w' : World} {H : Nat → Option AO} {σ : Sg}
def flatE (es : List (List AV)) : Prop := ∀ e ∈ es, ∀ c ∈ e, ∃ x, c = .v x
theorem repL_flat {σ1 σ2 : Sg} {w1 w2 : World} {cs : List AV} {f : Nat → Option Value} (hf : ∀ c ∈ cs, ∃ x, c = .v x) (h : RepL σ1 w1 cs f) : RepL σ2 w2 cs f := by
  rw [repL_iff'] at h ⊢
  intro i c hc
  obtain ⟨u, h1, h2⟩ := h i c hc
  refine ⟨u, h1, ?_⟩
  obtain ⟨x, rfl⟩ := hf c (List.mem_of_getElem? hc)
  simpa [Rep] using h2
theorem Inv.le_take (hi : Inv B0 S0 w H σ) {id b n k cap : Nat} (hf : H id = none) (hw : Below w.heap.size w w') (hb : w.heap.size ≤ b) : Le σ (σ.push b id n k cap) w w' := by
  refine ⟨fun _ h => h, fun b h => hw.block b (hi.S_lt b h).1, fun b' i h => ?_, fun _ h => .inr h, fun i ha => ?_⟩
  · have hb' := (hi.own_lt b' i h).2
    have hne : i ≠ id := fun e => (hi.fresh id hf).2 b' (e ▸ h)
    refine ⟨hi.al_of_own h, ?_, ?_, ?_⟩
    · simp only [Sg.push]; rw [if_neg (by omega)]; exact h
    · simp only [Sg.push]; rw [if_neg hne]
    · simp only [Sg.push]; rw [if_neg (by omega)]; exact Nat.le_refl _
  · have hne : i ≠ id := fun e => by subst e; exact (hi.al i).1 ha hf
    refine .inl ⟨by simp only [Sg.push]; rw [if_neg hne], by simp only [Sg.push]; rw [if_neg hne], fun b' hb' => ?_⟩
    have hlt : b' < w.heap.size := by
      cases ho : H i with
      | none => exact absurd ho ((hi.al i).1 ha)
      | some o =>
        cases o with
        | row r => exact (hi.own_lt b' i ((hi.row i r ho).cur b' hb').1).2
        | mp kt et es =>
          obtain ⟨b2, _, _, a1, a2, _⟩ := (hi.mp i kt et es ho).cur
          rw [a1] at hb'; cases hb'
          exact (hi.own_lt b' i a2).2
    simp only [Sg.push]; rw [if_neg (by omega)]
theorem Inv.take (hi : Inv B0 S0 w H σ) {id b : Nat} (hf : H id = none) (hB : B0 ≤ w.heap.size) (hw : Below w.heap.size w w') (hb1 : w.heap.size ≤ b) (hb2 : b < w'.heap.size) (r : Row) (cap : Nat) (arr : Array Value)
    (hbl : w'.heap[b]? = some (.cells arr r.ty (0, 0))) (hcap : r.es.length ≤ cap) (hmax : cap ≤ maxLen) (hsz : arr.size = cap * r.k) (hg : r.fro = false) (hlo : r.lo ≤ r.es.length)
    (each : ∀ e ∈ r.es, e.length = r.k ∧ ∀ c ∈ e, c.cell = true) (hflat : flatE r.es)
    {σ' : Sg} (hcon : ∀ i (hi : i < r.es.length), RepL σ' w' r.es[i] (fun j => w'.cell? ⟨b, i * r.k + j, none⟩)) :
    Inv B0 S0 w' (updH H id (.row r)) (σ.push b id r.es.length r.k cap) := by
  have hle := hi.le_take (n := r.es.length) (k := r.k) (cap := cap) hf hw hb1
  have hS : ¬ σ.S b := fun h => by have := (hi.S_lt _ h).1; omega
  have hsize := hw.size
  refine ⟨fun i => ?_, fun i hn => ?_, fun b h => ⟨by have := (hi.S_lt b h).1; omega, (hi.S_lt b h).2⟩, fun b' i h => ?_, fun i r' h => ?_, fun i kt et es h => ?_, S0.mono _ _ _ _ hle hi.fr⟩
  · simp only [Sg.push, updH]
    by_cases e : i = id
    · simp [e]
    · simp [e, hi.al]
  · simp only [updH] at hn
    have e : i ≠ id := fun e => by simp [e] at hn
    rw [if_neg e] at hn
    obtain ⟨h1, h2⟩ := hi.fresh i hn
    refine ⟨by simp only [Sg.push]; rw [if_neg e]; exact h1, fun b' hb => ?_⟩
    simp only [Sg.push] at hb
    split at hb
    · injection hb with hb; exact e hb.symm
    · exact h2 b' hb
  · simp only [Sg.push] at h
    split at h
    · subst b'; exact ⟨by omega, hb2⟩
    · have := hi.own_lt b' i h; exact ⟨this.1, by omega⟩
  · simp only [updH] at h
    by_cases e : i = id
    · subst e
      rw [if_pos rfl] at h; injection h with h; injection h with h; subst h
      have hnew : ∀ b', (σ.push b i r.es.length r.k cap).own b' = some i → b' = b := fun b' hb => by
        simp only [Sg.push] at hb
        split at hb
        · assumption
        · exact absurd hb ((hi.fresh i hf).2 b')
      refine ⟨by simp [Sg.push], by simp [Sg.push], each, hlo, fun b' hb => ?_, fun hc => by simp [Sg.push] at hc, fun b' hb => ?_, fun b' hb j h1 => ?_⟩
      · simp only [Sg.push, if_true] at hb; injection hb with hb; subst hb
        exact ⟨by simp [Sg.push], by simp [Sg.push], by simpa [Sg.push] using hcap, by simpa [Sg.push] using hmax, arr, hbl, by simpa [Sg.push] using hsz⟩
      · have := hnew b' hb; subst this
        exact ⟨.inl (by simp [Sg.push]), by simp [Sg.push], fun h => (by rw [hg] at h; cases h), fun _ => hS⟩
      · simp only [Sg.push, if_true] at hb; injection hb with hb; subst hb
        exact repL_flat (hflat _ (List.getElem_mem h1)) (hcon j h1)
    · rw [if_neg e] at h
      have hr := hi.row i r' h
      have hown : ∀ b', (σ.push b id r.es.length r.k cap).own b' = some i → σ.own b' = some i ∧ b' ≠ b := fun b' hb => by
        simp only [Sg.push] at hb
        split at hb
        · injection hb with hb; exact absurd hb.symm e
        · exact ⟨hb, by assumption⟩
      have hx : ∀ b', b' ≠ b → (σ.push b id r.es.length r.k cap).ext b' = σ.ext b' := fun b' hb => by simp only [Sg.push]; rw [if_neg hb]
      have hcx : (σ.push b id r.es.length r.k cap).cur i = σ.cur i := by simp only [Sg.push]; rw [if_neg e]
      have hax : ∀ b', b' ≠ b → (σ.push b id r.es.length r.k cap).cap b' = σ.cap b' := fun b' hb => by simp only [Sg.push]; rw [if_neg hb]
      refine ⟨by simp only [Sg.push]; rw [if_neg e]; exact hr.len, by simp only [Sg.push]; rw [if_neg e]; exact hr.k, hr.each, hr.lo, fun b' hb => ?_, fun hc => hr.empty (by rw [← hcx]; exact hc), fun b' hb => ?_, fun b' hb j h1 => ?_⟩
      · rw [hcx] at hb
        obtain ⟨a1, a2, a3, a4, ar, a5, a6⟩ := hr.cur b' hb
        have hlt := (hi.own_lt b' i a1).2
        exact ⟨by simp only [Sg.push]; rw [if_neg (by omega)]; exact a1, by rw [hx b' (by omega)]; exact a2, by rw [hax b' (by omega)]; exact a3, by rw [hax b' (by omega)]; exact a4, ar, (hw.block b' hlt).trans a5, by rw [hax b' (by omega)]; exact a6⟩
      · obtain ⟨h1, h2⟩ := hown b' hb
        rw [hx b' h2, hcx]; exact hr.own b' h1
      · rw [hcx] at hb
        refine RepL.mono hle _ _ _ (fun m u hu => ?_) (hr.con b' hb j h1)
        rw [cell_of_heap (w := w) (hw.block b' (hi.own_lt b' i (hr.cur b' hb).1).2)]; exact hu
  · simp only [updH] at h
    by_cases e : i = id
    · subst e; simp at h
    · rw [if_neg e] at h
      have hm := hi.mp i kt et es h
      obtain ⟨b', clock, xs, a1, a2, a3, a4, a5, a6⟩ := hm.cur
      have hlt := (hi.own_lt b' i a2).2
      refine ⟨by simp only [Sg.push]; rw [if_neg e]; exact hm.len, ⟨b', clock, xs, by simp only [Sg.push]; rw [if_neg e]; exact a1, by simp only [Sg.push]; rw [if_neg (by omega)]; exact a2, a3, (hw.block b' hlt).trans a4, a5, RepL.mono hle _ _ _ (fun _ _ h => h) a6⟩, fun b2 hb => ?_⟩
      simp only [Sg.push] at hb
      split at hb
      · injection hb with hb; exact absurd hb.symm e
      · rename_i hne
        obtain ⟨h1, h2⟩ := hm.one b2 hb
        exact ⟨by simp only [Sg.push]; rw [if_neg e]; exact h1, by simp only [Sg.push]; rw [if_neg hne]; exact h2⟩
end
section
variable {C : Cx} {N : Nat} {Q : Exit → St → Prop} {s : St} {ops : Array Oper} {rest : List Oper} {o : Oper}
def NewRow (Qr : Row → Prop) (r : AV) (H : Nat → Option AO) (_ : Nat) : Prop := ∃ i row, r = .ref i 0 row.es.length ∧ rowAt H i = some row ∧ row.fro = false ∧ flatE row.es ∧ row.es ≠ [] ∧ Qr row
theorem AWL.calln (hC : C.OK) (hg : o.guard = none) {d : Nat} (hd : o.dst = some d) (hN : d < N) {fo : Operand} {args : Array Operand} {tys : Array TypeId} (ho : o.op = .call { callee := .value fo, args := args, argTypes := tys })
    {f : FuncId} {vs : List AV} (hf : s.ev fo = .clo f []) (hv : viewL s.H (evsA args.toList s.ev) = some vs) (hids : idsL (evsA args.toList s.ev) = []) {Qr : Row → Prop} (hok : OKm C f vs (fun _ => none) 0 (NewRow Qr))
    (k : ∀ row, Qr row → AWL C N ops Q rest { tm := upd s.tm d (.ref s.nx 0 row.es.length), H := updH s.H s.nx (.row row), nx := s.nx + 1 }) : AWL C N ops Q (o :: rest) s := by
  rintro S0 w0 a w hE ⟨σ, hσ⟩
  obtain ⟨⟨fn, hfn, hname, hbody⟩, hcall⟩ := hok
  have hfo := hσ.ev fo
  rw [hf] at hfo
  simp only [Rep] at hfo
  obtain ⟨ca, hca, hcs, hcr⟩ := hfo
  have hce : ca = #[] := by simpa using hcs
  subst hce
  have hargs : RepL σ w (evsA args.toList s.ev) (fun i => (args.map a.eval)[i]?) := repL_evs (σ := σ) (w := w) (fun x => hσ.ev x) args
  obtain ⟨g1, _, g3⟩ := viewL_sound hσ.inv (S' := σ.S) (fun b h => h) _ _ vs hv (fun id hid b hb => by rw [hids] at hid; cases hid) hargs
  have hEw : C.E w := hC.E _ _ hσ.below hE
  have hi0 : Inv w.heap.size (Fr.of σ.S) w (fun _ => none) (pureSg σ.S) :=
    ⟨fun id => by simp [pureSg], fun id _ => ⟨rfl, fun b h => by simp [pureSg] at h⟩, fun b h => ⟨(hσ.inv.S_lt b h).1, .inl h⟩, fun b id h => by simp [pureSg] at h, fun id r h => by simp at h, fun id kt et es h => by simp at h, trivial⟩
  have hsz : (args.map a.eval).size = vs.length := by rw [← g1]; simp [evsA_map]
  have hc := hcall (Fr.of σ.S) w w (pureSg σ.S) (args.map a.eval) hEw hi0 (fun _ _ => rfl) (Below.refl _ _) hsz g3
  refine wpListIn_plain hg fun K hK => Oper.wpIn_of_wp C.hF (fun c e => by rw [ho] at e; cases e) ?_
  have hexec : (execOp a.eval o).run C.P w = .ok (.enter f (args.map a.eval)) w := by
    have hb : (fn.name == "runtime.NumGoroutine") ≠ true := by simp [hname]
    simp only [execOp, ho, resolve, hca, Deferred.ofValue, Sem.run_bind, Sem.run_pure, Result.andThen_ok, invoke, callFunc, run_program, hfn, if_neg hb, hbody, Bool.false_eq_true, if_false]
    simp
  simp only [Oper.wp, hexec, Oper.upon]
  refine hc.mono ?_
  rintro e w' ⟨v, r, σ', H', nx', rfl, ⟨i, row, rfl, hrow, hfro, hflat, hne, hq⟩, hb, hi', hnx', hle', hrep⟩
  dsimp only
  rw [hd]
  have hH : H' i = some (.row row) := by
    unfold rowAt at hrow
    split at hrow
    · rename_i r' hr'; injection hrow with hrow; subst hrow; exact hr'
    · cases hrow
  have hri := hi'.row i row hH
  obtain ⟨bb, hcur⟩ : ∃ b, σ'.cur i = some b := by
    cases hcq : σ'.cur i with
    | none => exact absurd (hri.empty hcq) hne
    | some b => exact ⟨b, rfl⟩
  obtain ⟨a1, a2, a3, a4, arr, a5, a6⟩ := hri.cur bb hcur
  have hbb := hi'.own_lt bb i a1
  have hnone : s.H s.nx = none := hσ.nx _ (Nat.le_refl _)
  have hinv := hσ.inv.take hnone hσ.size hb hbb.1 hbb.2 row (σ'.cap bb) arr a5 a3 a4 a6 hfro hri.lo hri.each hflat (hri.con bb hcur)
  have hlet := hσ.inv.le_take (n := row.es.length) (k := row.k) (cap := σ'.cap bb) hnone hb hbb.1
  have hbel : Below w0.heap.size w w' := hb.mono hσ.size
  refine hK _ _ (k row hq S0 w0 _ w' hE ⟨_, hσ.put hN (s' := { tm := upd s.tm d (.ref s.nx 0 row.es.length), H := updH s.H s.nx (.row row), nx := s.nx + 1 }) hinv (fun id hid => ?_) hlet hbel ?_ rfl⟩)
  · show updH s.H s.nx _ id = none
    have hid' : s.nx + 1 ≤ id := hid
    simp only [updH]; rw [if_neg (by omega)]; exact hσ.nx id (by omega)
  · simp only [Rep] at hrep ⊢
    obtain ⟨_, A, cap, hvv, h1, h2, h3, h4⟩ := hrep
    obtain ⟨b2, q1, q2, q3⟩ : ∃ b, σ'.cur i = some b ∧ A = some ⟨b, 0, none⟩ ∧ cap = σ'.cap b := by
      rcases h4 trivial hri.len.symm with h | h
      · rw [hcur] at h; cases h.1
      · exact h
    rw [hcur] at q1
    injection q1 with q1
    subst q1
    refine ⟨.inl rfl, A, cap, hvv, h1, h2, fun _ => ⟨bb, by rw [q2]; simp, by simp [Sg.push], by simp [Sg.push]⟩, fun _ _ => .inr ⟨bb, by simp [Sg.push], q2, by rw [q3]; simp [Sg.push]⟩⟩
end
end Go.Pg
