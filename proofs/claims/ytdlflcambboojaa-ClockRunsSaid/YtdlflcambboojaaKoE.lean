/-
  Contracts of functions, proved by going through their code. No conditions.
-/
import Derived.Test.YtdlflcambboojaaKaa
import Derived.Test.YtdlflcambboojaaKoC
import Derived.Test.YtdlflcambboojaaKoD
set_option linter.unusedVariables false
set_option linter.unusedSimpArgs false
set_option maxHeartbeats 8000000
set_option maxRecDepth 10000
namespace Go.Proofs.Ks
open Go Go.Pg Go.Proofs
theorem RCheckRun_ok (x : Run) (hlen : x.legs.length ≤ 1099511627776) : OKv cx 65 [.agg (eRun x)] (ai (runE x)) := by
  by_cases hn : 40 < x.legs.length
  · have e : runE x = 2 := by unfold runE; rw [if_pos hn]
    have hnI : (40 : Int) < (x.legs.length : Int) := by omega
    rw [e]
    refine OKat.of_body (rs := [2]) Try.func65 rfl (by decide +kernel) rfl (by simp [Try.ntmps65]) ?_
    simp only [Try.ntmps65]
    repeat' first
      | apply jA | apply jB | apply jC | apply jD | apply jE | apply jF | apply jG | apply jH | apply jI | apply jJ
      | refine W.draw cx_mixed (by decide +kernel) ?_
      | ((first | (apply jK cx_ok; decide) | (apply jL cx_ok; decide; decide) | apply jM cx_ok | (apply jN; rfl; decide) | (apply jO; rfl; decide; decide) | apply jR); (simp (disch := omega) only [push_cast, simprocAttr, hnI, natNe, zI, zG, zJ, zM, Bool.true_and, zO, beq_self_eq_true, zP, Bool.not_true, zW, zC] <;> rfl); all_goals try ((with_reducible intro hI); try first | (cases hI; done) | (simp only [INTS, zL] at hI; try first | (exfalso; omega) | (have hT : True := hI; clear hT hI))))
      | ((first | (apply jP; rfl; decide) | (apply jQ; rfl; decide; decide)); (simp (disch := omega) only [push_cast, simprocAttr, hnI, natNe, zI, zG, zJ, zM, Bool.true_and, zO, beq_self_eq_true, zP, Bool.not_true, zW, zC] <;> rfl))
      | ((first | apply jf | apply jg); (iterate 2 (try (simp (disch := omega) only [push_cast, simprocAttr, hnI, natNe, zI, zG, zJ, zM, Bool.true_and, zO, beq_self_eq_true, zP, Bool.not_true, zW, zC] <;> rfl))))

    all_goals (show _ = _; rfl)
  · have hnI : ¬ (40 : Int) < (x.legs.length : Int) := by omega
    by_cases hb : x.start < 0 ∨ 1073741823 < x.start ∨ x.micro < 0 ∨ 43200000000 ≤ x.micro
    · have e : runE x = 1 := by unfold runE; rw [if_neg hn, if_pos hb]
      rw [e]
      refine OKat.of_body (rs := [2]) Try.func65 rfl (by decide +kernel) rfl (by simp [Try.ntmps65]) ?_
      simp only [Try.ntmps65]
      repeat' first
        | apply jA | apply jB | apply jC | apply jD | apply jE | apply jF | apply jG | apply jH | apply jI | apply jJ
        | refine W.draw cx_mixed (by decide +kernel) ?_
        | ((first | (apply jK cx_ok; decide) | (apply jL cx_ok; decide; decide) | apply jM cx_ok | (apply jN; rfl; decide) | (apply jO; rfl; decide; decide) | apply jR); (simp (disch := omega) only [push_cast, simprocAttr, hnI] <;> rfl); all_goals try ((with_reducible intro hI); try first | (cases hI; done) | (simp only [INTS, zL] at hI; try first | (exfalso; omega) | (have hT : True := hI; clear hT hI))))
        | ((first | (apply jP; rfl; decide) | (apply jQ; rfl; decide; decide)); (simp (disch := omega) only [push_cast, simprocAttr, hnI] <;> rfl))
        | ((first | apply jf | apply jg); (iterate 2 (try (simp (disch := omega) only [push_cast, simprocAttr, hnI] <;> rfl))))

      all_goals first
        | (show _ = _; rfl)
        | (exfalso; omega)
    · have e : runE x = runT x.legs x.start x.micro := by unfold runE; rw [if_neg hn, if_neg hb]
      simp only [not_or, Int.not_lt, Int.not_le] at hb
      obtain ⟨b1, b2, b3, b4⟩ := hb
      rw [e, runT_eq]
      obtain ⟨BB, hBB⟩ : ∃ z, x.legs.all legB = z := ⟨_, rfl⟩
      rw [hBB]
      refine OKat.of_body (rs := [2]) Try.func65 rfl (by decide +kernel) rfl (by simp [Try.ntmps65]) ?_
      simp only [Try.ntmps65]
      repeat' first
        | apply jA | apply jB | apply jC | apply jD | apply jE | apply jF | apply jG | apply jH | apply jI | apply jJ
        | refine W.draw cx_mixed (by decide +kernel) ?_
        | ((first | (apply jK cx_ok; decide) | (apply jL cx_ok; decide; decide) | apply jM cx_ok | (apply jN; rfl; decide) | (apply jO; rfl; decide; decide) | apply jR); (simp (disch := omega) only [push_cast, simprocAttr, hnI, b1, b2, b3, b4] <;> rfl); all_goals try ((with_reducible intro hI); try first | (cases hI; done) | (simp only [INTS, zL] at hI; try first | (exfalso; omega) | (have hT : True := hI; clear hT hI))))
        | ((first | (apply jP; rfl; decide) | (apply jQ; rfl; decide; decide)); (simp (disch := omega) only [push_cast, simprocAttr, hnI, b1, b2, b3, b4] <;> rfl))
        | ((first | apply jf | apply jg); (iterate 2 (try (simp (disch := omega) only [push_cast, simprocAttr, hnI, b1, b2, b3, b4] <;> rfl))))

      refine AW.loop (fun n s => ∃ (k : Nat) (rest : List Leg), n = rest.length ∧ (x.legs.drop k = rest) ∧ (rest.all legB = BB) ∧ (∀ y ∈ x.legs.take k, legB y = true) ∧ (k ≤ x.legs.length) ∧ 1 ≤ s.nx ∧ s.tm 1 = .ptr 0 0 0 1 ∧ s.tm 3 = ai k ∧ Pg.rowAt s.H (0) = some ({ k := 3, es := [eRun x], ty := 100 })) (x.legs.length) ⟨0, x.legs, rfl, rfl, hBB, (fun y h => by simp at h), (Nat.zero_le _), ?_, ?_, ?_, ?_⟩ ?_
      iterate 4 (first | (simp (disch := omega) only [push_cast, simprocAttr, hnI, b1, b2, b3, b4] <;> first | rfl | omega) | omega)
      rintro n s ⟨k, rest, hn, hp0, hp1, hp2, hp3, hnl, hS⟩
      have hZ : (0 : Nat) ≠ s.nx ∧ s.nx ≠ (0 : Nat) := by omega
      rcases rest with _ | ⟨y, rest⟩
      rotate_left
      · obtain ⟨hk, hg, hd', hl', hm, hx9⟩ := drop_cons hp0 eLeg []
        have hkl := len_le hp0
        rw [List.all_cons] at hp1
        cases hlg : legB y with
        | true =>
          obtain ⟨q1, q2, q3, q4, q5, q6⟩ := leg_bd hlg
          have q7 := legB_iff.1 hlg
          rw [hlg, Bool.true_and] at hp1
          repeat' first
            | apply jA | apply jB | apply jC | apply jD | apply jE | apply jF | apply jG | apply jH | apply jI | apply jJ
            | refine W.draw cx_mixed (by decide +kernel) ?_
            | ((first | (apply jK cx_ok; decide) | (apply jL cx_ok; decide; decide) | apply jM cx_ok | (apply jN; rfl; decide) | (apply jO; rfl; decide; decide) | apply jR); (simp (disch := omega) only [push_cast, simprocAttr, hS, hZ, hk, hg, hx9] <;> rfl); all_goals try ((with_reducible intro hI); try first | (cases hI; done) | (simp only [INTS, zL] at hI; try first | (exfalso; omega) | (have hT : True := hI; clear hT hI))))
            | ((first | (apply jP; rfl; decide) | (apply jQ; rfl; decide; decide)); (simp (disch := omega) only [push_cast, simprocAttr, hS, hZ, hk, hg, hx9] <;> rfl))
            | ((first | apply jf | apply jg); (iterate 2 (try (simp (disch := omega) only [push_cast, simprocAttr, hS, hZ, hk, hg, hx9] <;> rfl))))

          all_goals first
            | (exfalso; omega)
            | (refine ⟨rest.length, ?_, k + 1, rest, rfl, hd', hp1, (fun z hz => by rw [take_snoc hp0] at hz; exact (List.mem_append.1 hz).elim (hp2 z) fun h => by rw [List.mem_singleton.1 h]; exact hlg), (by omega), ?_, ?_, ?_, ?_⟩; ((simp only [zD] at *; omega)); all_goals first | (simp (disch := omega) only [push_cast, simprocAttr, hS, hZ, hk, hg, hx9] <;> first | rfl | omega) | omega)
        | false =>
          have q7 : ¬ (1 ≤ y.secs ∧ y.secs ≤ 36000 ∧ (y.rate = 0 ∨ (900000 ≤ y.rate ∧ y.rate ≤ 1100000))) := fun h => by rw [legB_iff.2 h] at hlg; cases hlg
          rw [hlg, Bool.false_and] at hp1
          subst hp1
          rw [if_neg (by decide)]
          repeat' first
            | apply jA | apply jB | apply jC | apply jD | apply jE | apply jF | apply jG | apply jH | apply jI | apply jJ
            | refine W.draw cx_mixed (by decide +kernel) ?_
            | ((first | (apply jK cx_ok; decide) | (apply jL cx_ok; decide; decide) | apply jM cx_ok | (apply jN; rfl; decide) | (apply jO; rfl; decide; decide) | apply jR); (simp (disch := omega) only [push_cast, simprocAttr, hS, hZ, hk, hg, hx9] <;> rfl); all_goals try ((with_reducible intro hI); try first | (cases hI; done) | (simp only [INTS, zL] at hI; try first | (exfalso; omega) | (have hT : True := hI; clear hT hI))))
            | ((first | (apply jP; rfl; decide) | (apply jQ; rfl; decide; decide)); (simp (disch := omega) only [push_cast, simprocAttr, hS, hZ, hk, hg, hx9] <;> rfl))
            | ((first | apply jf | apply jg); (iterate 2 (try (simp (disch := omega) only [push_cast, simprocAttr, hS, hZ, hk, hg, hx9] <;> rfl))))

          all_goals first
            | (exfalso; omega)
            | (show _ = _; rfl)
      have hk := drop_nil hp0
      have hall : ∀ y ∈ x.legs, legB y = true := by rw [List.take_of_length_le (List.drop_eq_nil_iff.1 hp0)] at hp2; exact hp2
      have hp1' : true = BB := hp1
      subst hp1'
      rw [if_pos rfl]
      have hsec : ∀ y ∈ x.legs, 1 ≤ y.secs := fun y hy => (leg_bd (hall y hy)).1
      have c70 := End_ok x (by omega) hall ⟨b1, b2⟩ ⟨b3, b4⟩
      obtain ⟨n1, n2⟩ := sumP_nn hall
      by_cases ht : 1073741823 < x.start + sumT x.legs
      · rw [if_pos (.inl ht)]
        obtain ⟨TT, hTT⟩ : ∃ z, x.start + sumT x.legs = z := ⟨_, rfl⟩
        rw [hTT] at c70 ht
        repeat' first
          | apply jA | apply jB | apply jC | apply jD | apply jE | apply jF | apply jG | apply jH | apply jI | apply jJ
          | refine W.draw cx_mixed (by decide +kernel) ?_
          | ((first | (apply jK cx_ok; decide) | (apply jL cx_ok; decide; decide) | apply jM cx_ok | (apply jN; rfl; decide) | (apply jO; rfl; decide; decide) | apply jR); (simp (disch := omega) only [push_cast, simprocAttr, hS, hZ, hk, ht, natNe, zI, zG, zJ, zM, Bool.true_and, zO, beq_self_eq_true, zP, Bool.not_true, zW, zC] <;> rfl); all_goals try ((with_reducible intro hI); try first | (cases hI; done) | (simp only [INTS, zL] at hI; try first | (exfalso; omega) | (have hT : True := hI; clear hT hI))))
          | ((first | (apply jP; rfl; decide) | (apply jQ; rfl; decide; decide)); (simp (disch := omega) only [push_cast, simprocAttr, hS, hZ, hk, ht, natNe, zI, zG, zJ, zM, Bool.true_and, zO, beq_self_eq_true, zP, Bool.not_true, zW, zC] <;> rfl))
          | ((first | (apply jV cx_ok; decide) | (apply jW cx_ok; decide; decide)); (iterate 2 (simp (disch := omega) only [push_cast, simprocAttr, hS, hZ, hk, ht, natNe, zI, zG, zJ, zM, Bool.true_and, zO, beq_self_eq_true, zP, Bool.not_true, zW, zC] <;> rfl)); (with_reducible first | exact c70); try first | rfl | (simp (disch := omega) only [push_cast, simprocAttr, hS, hZ, hk, ht, natNe, zI, zG, zJ, zM, Bool.true_and, zO, beq_self_eq_true, zP, Bool.not_true, zW, zC] <;> rfl))
          | ((first | apply jf | apply jg); (iterate 2 (try (simp (disch := omega) only [push_cast, simprocAttr, hS, hZ, hk, ht, natNe, zI, zG, zJ, zM, Bool.true_and, zO, beq_self_eq_true, zP, Bool.not_true, zW, zC] <;> rfl))))

        all_goals (show _ = _; rfl)
      · have c71 := Place_ok x (x.start + sumT x.legs) (by omega) hall ⟨b1, b2⟩ ⟨b3, b4⟩ (by omega)
        rw [place_end hsec] at c71
        by_cases hp : 43200000000 ≤ x.micro + sumP x.legs
        · rw [if_pos (.inr hp)]
          obtain ⟨TT, hTT⟩ : ∃ z, x.start + sumT x.legs = z := ⟨_, rfl⟩
          obtain ⟨PP, hPP⟩ : ∃ z, x.micro + sumP x.legs = z := ⟨_, rfl⟩
          rw [hTT] at c70 ht c71
          rw [hPP] at c71 hp
          have hp' : 43199999999 < PP := by omega
          repeat' first
            | apply jA | apply jB | apply jC | apply jD | apply jE | apply jF | apply jG | apply jH | apply jI | apply jJ
            | refine W.draw cx_mixed (by decide +kernel) ?_
            | ((first | (apply jK cx_ok; decide) | (apply jL cx_ok; decide; decide) | apply jM cx_ok | (apply jN; rfl; decide) | (apply jO; rfl; decide; decide) | apply jR); (simp (disch := omega) only [push_cast, simprocAttr, hS, hZ, hk, ht, hp', natNe, zI, zG, zJ, zM, Bool.true_and, zO, beq_self_eq_true, zP, Bool.not_true, zW, zC] <;> rfl); all_goals try ((with_reducible intro hI); try first | (cases hI; done) | (simp only [INTS, zL] at hI; try first | (exfalso; omega) | (have hT : True := hI; clear hT hI))))
            | ((first | (apply jP; rfl; decide) | (apply jQ; rfl; decide; decide)); (simp (disch := omega) only [push_cast, simprocAttr, hS, hZ, hk, ht, hp', natNe, zI, zG, zJ, zM, Bool.true_and, zO, beq_self_eq_true, zP, Bool.not_true, zW, zC] <;> rfl))
            | ((first | (apply jV cx_ok; decide) | (apply jW cx_ok; decide; decide)); (iterate 2 (simp (disch := omega) only [push_cast, simprocAttr, hS, hZ, hk, ht, hp', natNe, zI, zG, zJ, zM, Bool.true_and, zO, beq_self_eq_true, zP, Bool.not_true, zW, zC] <;> rfl)); (with_reducible first | exact c70 | exact c71); try first | rfl | (simp (disch := omega) only [push_cast, simprocAttr, hS, hZ, hk, ht, hp', natNe, zI, zG, zJ, zM, Bool.true_and, zO, beq_self_eq_true, zP, Bool.not_true, zW, zC] <;> rfl))
            | ((first | apply jf | apply jg); (iterate 2 (try (simp (disch := omega) only [push_cast, simprocAttr, hS, hZ, hk, ht, hp', natNe, zI, zG, zJ, zM, Bool.true_and, zO, beq_self_eq_true, zP, Bool.not_true, zW, zC] <;> rfl))))

          all_goals (show _ = _; rfl)
        · rw [if_neg (fun h => h.elim ht hp)]
          obtain ⟨TT, hTT⟩ : ∃ z, x.start + sumT x.legs = z := ⟨_, rfl⟩
          obtain ⟨PP, hPP⟩ : ∃ z, x.micro + sumP x.legs = z := ⟨_, rfl⟩
          rw [hTT] at c70 ht c71
          rw [hPP] at c71 hp
          have hp' : ¬ 43199999999 < PP := by omega
          repeat' first
            | apply jA | apply jB | apply jC | apply jD | apply jE | apply jF | apply jG | apply jH | apply jI | apply jJ
            | refine W.draw cx_mixed (by decide +kernel) ?_
            | ((first | (apply jK cx_ok; decide) | (apply jL cx_ok; decide; decide) | apply jM cx_ok | (apply jN; rfl; decide) | (apply jO; rfl; decide; decide) | apply jR); (simp (disch := omega) only [push_cast, simprocAttr, hS, hZ, hk, ht, hp', natNe, zI, zG, zJ, zM, Bool.true_and, zO, beq_self_eq_true, zP, Bool.not_true, zW, zC] <;> rfl); all_goals try ((with_reducible intro hI); try first | (cases hI; done) | (simp only [INTS, zL] at hI; try first | (exfalso; omega) | (have hT : True := hI; clear hT hI))))
            | ((first | (apply jP; rfl; decide) | (apply jQ; rfl; decide; decide)); (simp (disch := omega) only [push_cast, simprocAttr, hS, hZ, hk, ht, hp', natNe, zI, zG, zJ, zM, Bool.true_and, zO, beq_self_eq_true, zP, Bool.not_true, zW, zC] <;> rfl))
            | ((first | (apply jV cx_ok; decide) | (apply jW cx_ok; decide; decide)); (iterate 2 (simp (disch := omega) only [push_cast, simprocAttr, hS, hZ, hk, ht, hp', natNe, zI, zG, zJ, zM, Bool.true_and, zO, beq_self_eq_true, zP, Bool.not_true, zW, zC] <;> rfl)); (with_reducible first | exact c70 | exact c71); try first | rfl | (simp (disch := omega) only [push_cast, simprocAttr, hS, hZ, hk, ht, hp', natNe, zI, zG, zJ, zM, Bool.true_and, zO, beq_self_eq_true, zP, Bool.not_true, zW, zC] <;> rfl))
            | ((first | apply jf | apply jg); (iterate 2 (try (simp (disch := omega) only [push_cast, simprocAttr, hS, hZ, hk, ht, hp', natNe, zI, zG, zJ, zM, Bool.true_and, zO, beq_self_eq_true, zP, Bool.not_true, zW, zC] <;> rfl))))

          all_goals (show _ = _; rfl)
end Go.Proofs.Ks
