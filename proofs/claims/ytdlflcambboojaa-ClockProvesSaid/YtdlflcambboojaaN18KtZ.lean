/-
  Contracts of functions, proved by going through their code. No conditions.
-/
import Derived.Test.YtdlflcambboojaaMaa
import Derived.Test.YtdlflcambboojaaMaz
set_option linter.unusedVariables false
set_option linter.unusedSimpArgs false
set_option maxHeartbeats 8000000
set_option maxRecDepth 10000
namespace Go.Proofs.Ks
open Go Go.Pg Go.Proofs
def okN (t : Int) : Bool := decide (-1073741823 ≤ t) && decide (t ≤ 2147483646)
def lkB (ts : List Int) (l : Lk) : Bool := decide (ts.getD l.b 0 - ts.getD l.a 0 ≤ l.m)
def timesB (n : Nat) (L : List Lk) (ts : List Int) : Bool := decide (ts.length = n) && (decide (ts.headD 1 = 0) && (ts.all okN && L.all (lkB ts)))
def checkTimesE (r : Rec) (ts : List Int) : Int := if checkE r = 0 then (if timesB (nodesR r []).length (linksR r []) ts = true then 0 else 8) else checkE r
theorem getI {ts : List Int} {i : Nat} (h : i < ts.length) : (ts.map eInt)[i]? = some (eInt (ts.getD i 0)) ∧ (ts.map eInt).getD i [] = eInt (ts.getD i 0) ∧ ts.getD i 0 ∈ ts := by
  have e : ts[i]? = some (ts.getD i 0) := by rw [List.getD_eq_getElem?_getD, List.getElem?_eq_getElem h]; rfl
  have e2 : (ts.map eInt)[i]? = some (eInt (ts.getD i 0)) := by rw [List.getElem?_map, e]; rfl
  exact ⟨e2, by rw [List.getD_eq_getElem?_getD, e2]; rfl, List.mem_of_getElem? e⟩
theorem CheckTimes_ok (r : Rec) (ts : List Int) (hlt : ts.length ≤ 1099511627776) : OKv cx 47 [.agg (eRec r), lInt ts] (ai (checkTimesE r ts)) := by
  unfold checkTimesE
  by_cases hc : checkE r = 0
  · rw [if_pos hc]
    have hv := checkE_V hc
    obtain ⟨h1, h2, h3, h4, h5⟩ := links_facts (more := []) hv (by decide) nomore
    have hb : OKv cx 87 [.agg (eRec r), .lst []] (gSys (nodesR r []) (linksR r [])) := build_ok r [] hv (by decide) nomore
    have hnl := nodesR_len r []
    obtain ⟨N, hN⟩ : ∃ z, nodesR r [] = z := ⟨_, rfl⟩
    obtain ⟨LK, hLK⟩ : ∃ z, linksR r [] = z := ⟨_, rfl⟩
    rw [hN] at h1 h3 hb hnl ⊢
    rw [hLK] at h2 h3 h4 hb ⊢
    by_cases hl : ts.length = N.length
    · rcases ts with _ | ⟨c, ts⟩
      · exfalso; simp only [zC] at hl; omega
      · have gl0 : ((c :: ts).map eInt)[0]? = some (eInt c) := rfl
        have gd0 : ((c :: ts).map eInt).getD 0 [] = eInt c := rfl
        have hhd : (c :: ts).headD 1 = c := rfl
        obtain ⟨TS, hTS⟩ : ∃ z, c :: ts = z := ⟨_, rfl⟩
        rw [hTS] at hl hlt gl0 gd0 hhd ⊢
        have hlT : ((TS.length : Int) = (N.length : Int)) = True := eq_true (by omega)
        have hp0 : (0 : Int) < (TS.length : Int) := by omega
        by_cases q : c = 0
        · subst q
          obtain ⟨B, hB⟩ : ∃ z, (TS.all okN && LK.all (lkB TS)) = z := ⟨_, rfl⟩
          have hT : timesB N.length LK TS = B := by unfold timesB; rw [decide_eq_true hl, decide_eq_true hhd, Bool.true_and, Bool.true_and, hB]
          rw [hT]
          clear hT
          refine OKat.of_body (rs := [4]) Try.func47 rfl (by decide +kernel) rfl (by simp [Try.ntmps47]) ?_
          simp only [Try.ntmps47]
          repeat' first
            | apply jA | apply jB | apply jC | apply jD | apply jE | apply jF | apply jG | apply jH | apply jI | apply jJ
            | refine W.draw cx_mixed (by decide +kernel) ?_
            | ((first | (apply jK cx_ok; decide) | (apply jL cx_ok; decide; decide) | apply jM cx_ok | (apply jN; rfl; decide) | (apply jO; rfl; decide; decide) | apply jR); (simp (disch := omega) only [push_cast, simprocAttr, hc, hlT, gl0, gd0, hp0] <;> rfl); all_goals try ((with_reducible intro hI); try first | (cases hI; done) | (simp only [INTS, zL] at hI; try first | (exfalso; omega) | (have hT : True := hI; clear hT hI))))
            | ((first | (apply jV cx_ok; decide) | (apply jW cx_ok; decide; decide)); (iterate 2 (simp (disch := omega) only [push_cast, simprocAttr, hc, hlT, gl0, gd0, hp0] <;> rfl)); (with_reducible first | exact Check_ok r | exact hb); try first | rfl | (simp (disch := omega) only [push_cast, simprocAttr, hc, hlT, gl0, gd0, hp0] <;> rfl))
            | ((first | apply jf | apply jg); (iterate 2 (try (simp (disch := omega) only [push_cast, simprocAttr, hc, hlT, gl0, gd0, hp0] <;> rfl))))

          refine AW.loop (fun n s => ∃ (k : Nat) (rest : List Int), n = rest.length ∧ (TS.drop k = rest) ∧ ((rest.all okN && LK.all (lkB TS)) = B) ∧ (∀ t ∈ TS.take k, okN t = true) ∧ s.tm 1 = lInt TS ∧ s.tm 6 = gSys N LK ∧ s.tm 32 = lInt TS ∧ s.tm 33 = ai TS.length ∧ s.tm 34 = ai k) (TS.length) ⟨0, TS, rfl, rfl, hB, (fun t h => by simp at h), ?_, ?_, ?_, ?_, ?_⟩ ?_
          iterate 5 (first | (simp (disch := omega) only [push_cast, simprocAttr] <;> first | rfl | omega) | omega)
          rintro n0 s0 ⟨k0, rest0, hn0, hp00, hp10, hp20, hS0⟩
          rcases rest0 with _ | ⟨x, rest0⟩
          rotate_left
          · obtain ⟨hk, hg, hd', hl', hm', hx⟩ := drop_cons hp00 eInt []
            rw [List.all_cons, Bool.and_assoc] at hp10
            cases hx0 : okN x with
            | true =>
              have hx1 := hx0
              unfold okN at hx1
              simp only [Bool.and_eq_true, decide_eq_true_eq] at hx1
              obtain ⟨x1, x2⟩ := hx1
              rw [hx0, Bool.true_and] at hp10
              repeat' first
                | apply jA | apply jB | apply jC | apply jD | apply jE | apply jF | apply jG | apply jH | apply jI | apply jJ
                | refine W.draw cx_mixed (by decide +kernel) ?_
                | ((first | (apply jK cx_ok; decide) | (apply jL cx_ok; decide; decide) | apply jM cx_ok | (apply jN; rfl; decide) | (apply jO; rfl; decide; decide) | apply jR); (simp (disch := omega) only [push_cast, simprocAttr, hS0, hk, hg, hx, x1, x2] <;> rfl); all_goals try ((with_reducible intro hI); try first | (cases hI; done) | (simp only [INTS, zL] at hI; try first | (exfalso; omega) | (have hT : True := hI; clear hT hI))))
                | ((first | apply jf | apply jg); (iterate 2 (try (simp (disch := omega) only [push_cast, simprocAttr, hS0, hk, hg, hx, x1, x2] <;> rfl))))

              all_goals (refine ⟨rest0.length, ?_, k0 + 1, rest0, rfl, hd', hp10, (fun t ht => by rw [take_snoc hp00] at ht; exact (List.mem_append.1 ht).elim (hp20 t) fun h => by rw [List.mem_singleton.1 h]; exact hx0), ?_, ?_, ?_, ?_, ?_⟩; ((simp only [zD] at *; omega)); all_goals first | (simp (disch := omega) only [push_cast, simprocAttr, hS0, hk, hg, hx, x1, x2] <;> first | rfl | omega) | omega)
            | false =>
              have hx1 : ¬ (-1073741823 ≤ x ∧ x ≤ 2147483646) := fun h => by unfold okN at hx0; simp [h.1, h.2] at hx0
              rw [hx0, Bool.false_and] at hp10
              subst hp10
              repeat' first
                | apply jA | apply jB | apply jC | apply jD | apply jE | apply jF | apply jG | apply jH | apply jI | apply jJ
                | refine W.draw cx_mixed (by decide +kernel) ?_
                | ((first | (apply jK cx_ok; decide) | (apply jL cx_ok; decide; decide) | apply jM cx_ok | (apply jN; rfl; decide) | (apply jO; rfl; decide; decide) | apply jR); (simp (disch := omega) only [push_cast, simprocAttr, hS0, hk, hg, hx] <;> rfl); all_goals try ((with_reducible intro hI); try first | (cases hI; done) | (simp only [INTS, zL] at hI; try first | (exfalso; omega) | (have hT : True := hI; clear hT hI))))
                | ((first | apply jf | apply jg); (iterate 2 (try (simp (disch := omega) only [push_cast, simprocAttr, hS0, hk, hg, hx] <;> rfl))))

              all_goals first
                | (exfalso; omega)
                | (show _ = _; rfl)
          have hk := drop_nil hp00
          rw [List.take_of_length_le (List.drop_eq_nil_iff.1 hp00)] at hp20
          rw [List.all_nil, Bool.true_and] at hp10
          repeat' first
            | apply jA | apply jB | apply jC | apply jD | apply jE | apply jF | apply jG | apply jH | apply jI | apply jJ
            | refine W.draw cx_mixed (by decide +kernel) ?_
            | ((first | (apply jK cx_ok; decide) | (apply jL cx_ok; decide; decide) | apply jM cx_ok | (apply jN; rfl; decide) | (apply jO; rfl; decide; decide) | apply jR); (simp (disch := omega) only [push_cast, simprocAttr, hS0, hk] <;> rfl); all_goals try ((with_reducible intro hI); try first | (cases hI; done) | (simp only [INTS, zL] at hI; try first | (exfalso; omega) | (have hT : True := hI; clear hT hI))))
            | ((first | apply jf | apply jg); (iterate 2 (try (simp (disch := omega) only [push_cast, simprocAttr, hS0, hk] <;> rfl))))

          refine AW.loop (fun n s => ∃ (k : Nat) (rest : List Lk), n = rest.length ∧ (LK.drop k = rest) ∧ (rest.all (lkB TS) = B) ∧ s.tm 1 = lInt TS ∧ s.tm 48 = lLink LK ∧ s.tm 49 = ai LK.length ∧ s.tm 50 = ai k) (LK.length) ⟨0, LK, rfl, rfl, hp10, ?_, ?_, ?_, ?_⟩ ?_
          iterate 4 (first | (simp (disch := omega) only [push_cast, simprocAttr, hS0, hk] <;> first | rfl | omega) | omega)
          rintro n2 s2 ⟨k2, rest2, hn2, hp02, hp12, hS2⟩
          rcases rest2 with _ | ⟨x, rest2⟩
          · have hk2 := drop_nil hp02
            rw [List.all_nil] at hp12
            subst hp12
            repeat' first
              | apply jA | apply jB | apply jC | apply jD | apply jE | apply jF | apply jG | apply jH | apply jI | apply jJ
              | refine W.draw cx_mixed (by decide +kernel) ?_
              | ((first | (apply jK cx_ok; decide) | (apply jL cx_ok; decide; decide) | apply jM cx_ok | (apply jN; rfl; decide) | (apply jO; rfl; decide; decide) | apply jR); (simp (disch := omega) only [push_cast, simprocAttr, hS2, hk2] <;> rfl); all_goals try ((with_reducible intro hI); try first | (cases hI; done) | (simp only [INTS, zL] at hI; try first | (exfalso; omega) | (have hT : True := hI; clear hT hI))))
              | ((first | apply jf | apply jg); (iterate 2 (try (simp (disch := omega) only [push_cast, simprocAttr, hS2, hk2] <;> rfl))))

            all_goals (show _ = _; rfl)
          · obtain ⟨hk2, hg2, hd2, hl2, hm2, hx2⟩ := drop_cons hp02 eLink []
            obtain ⟨a1, a2⟩ := h3 x hm2
            obtain ⟨a3, a4⟩ := h4 x hm2
            obtain ⟨u1, u2, u3⟩ := getI (ts := TS) (i := x.a) (by omega)
            obtain ⟨v1, v2, v3⟩ := getI (ts := TS) (i := x.b) (by omega)
            have w1 := hp20 _ u3
            have w2 := hp20 _ v3
            rw [List.all_cons] at hp12
            have hxB : lkB TS x = decide (TS.getD x.b 0 - TS.getD x.a 0 ≤ x.m) := rfl
            rw [hxB] at hp12
            clear hxB
            obtain ⟨P, hP⟩ : ∃ z, TS.getD x.a 0 = z := ⟨_, rfl⟩
            obtain ⟨Q, hQ⟩ : ∃ z, TS.getD x.b 0 = z := ⟨_, rfl⟩
            rw [hP] at u1 u2 w1 hp12
            rw [hQ] at v1 v2 w2 hp12
            unfold okN at w1 w2
            simp only [Bool.and_eq_true, decide_eq_true_eq] at w1 w2
            obtain ⟨w1, w3⟩ := w1
            obtain ⟨w2, w4⟩ := w2
            have b1 : (x.a : Int) < (TS.length : Int) := by omega
            have b2 : (x.b : Int) < (TS.length : Int) := by omega
            by_cases hq : Q - P ≤ x.m
            · rw [decide_eq_true hq, Bool.true_and] at hp12
              repeat' first
                | apply jA | apply jB | apply jC | apply jD | apply jE | apply jF | apply jG | apply jH | apply jI | apply jJ
                | refine W.draw cx_mixed (by decide +kernel) ?_
                | ((first | (apply jK cx_ok; decide) | (apply jL cx_ok; decide; decide) | apply jM cx_ok | (apply jN; rfl; decide) | (apply jO; rfl; decide; decide) | apply jR); (simp (disch := omega) only [push_cast, simprocAttr, hS2, hk2, hg2, hx2, u1, u2, v1, v2, b1, b2, hq] <;> rfl); all_goals try ((with_reducible intro hI); try first | (cases hI; done) | (simp only [INTS, zL] at hI; try first | (exfalso; omega) | (have hT : True := hI; clear hT hI))))
                | ((first | apply jf | apply jg); (iterate 2 (try (simp (disch := omega) only [push_cast, simprocAttr, hS2, hk2, hg2, hx2, u1, u2, v1, v2, b1, b2, hq] <;> rfl))))

              all_goals (refine ⟨rest2.length, ?_, k2 + 1, rest2, rfl, hd2, hp12, ?_, ?_, ?_, ?_⟩; ((simp only [zD] at *; omega)); all_goals first | (simp (disch := omega) only [push_cast, simprocAttr, hS2, hk2, hg2, hx2, u1, u2, v1, v2, b1, b2, hq] <;> first | rfl | omega) | omega)
            · rw [decide_eq_false hq, Bool.false_and] at hp12
              subst hp12
              repeat' first
                | apply jA | apply jB | apply jC | apply jD | apply jE | apply jF | apply jG | apply jH | apply jI | apply jJ
                | refine W.draw cx_mixed (by decide +kernel) ?_
                | ((first | (apply jK cx_ok; decide) | (apply jL cx_ok; decide; decide) | apply jM cx_ok | (apply jN; rfl; decide) | (apply jO; rfl; decide; decide) | apply jR); (simp (disch := omega) only [push_cast, simprocAttr, hS2, hk2, hg2, hx2, u1, u2, v1, v2, b1, b2, hq] <;> rfl); all_goals try ((with_reducible intro hI); try first | (cases hI; done) | (simp only [INTS, zL] at hI; try first | (exfalso; omega) | (have hT : True := hI; clear hT hI))))
                | ((first | apply jf | apply jg); (iterate 2 (try (simp (disch := omega) only [push_cast, simprocAttr, hS2, hk2, hg2, hx2, u1, u2, v1, v2, b1, b2, hq] <;> rfl))))

              all_goals first
                | (exfalso; omega)
                | (show _ = _; rfl)
        · have qF : (c = 0) = False := eq_false q
          rw [if_neg (by unfold timesB; rw [hhd, decide_eq_false q]; simp)]
          refine OKat.of_body (rs := [4]) Try.func47 rfl (by decide +kernel) rfl (by simp [Try.ntmps47]) ?_
          simp only [Try.ntmps47]
          repeat' first
            | apply jA | apply jB | apply jC | apply jD | apply jE | apply jF | apply jG | apply jH | apply jI | apply jJ
            | refine W.draw cx_mixed (by decide +kernel) ?_
            | ((first | (apply jK cx_ok; decide) | (apply jL cx_ok; decide; decide) | apply jM cx_ok | (apply jN; rfl; decide) | (apply jO; rfl; decide; decide) | apply jR); (simp (disch := omega) only [push_cast, simprocAttr, hc, hlT, gl0, gd0, hp0, qF] <;> rfl); all_goals try ((with_reducible intro hI); try first | (cases hI; done) | (simp only [INTS, zL] at hI; try first | (exfalso; omega) | (have hT : True := hI; clear hT hI))))
            | ((first | (apply jV cx_ok; decide) | (apply jW cx_ok; decide; decide)); (iterate 2 (simp (disch := omega) only [push_cast, simprocAttr, hc, hlT, gl0, gd0, hp0, qF] <;> rfl)); (with_reducible first | exact Check_ok r | exact hb); try first | rfl | (simp (disch := omega) only [push_cast, simprocAttr, hc, hlT, gl0, gd0, hp0, qF] <;> rfl))
            | ((first | apply jf | apply jg); (iterate 2 (try (simp (disch := omega) only [push_cast, simprocAttr, hc, hlT, gl0, gd0, hp0, qF] <;> rfl))))

          all_goals (show _ = _; rfl)
    · have hlF : ((ts.length : Int) = (N.length : Int)) = False := eq_false (by omega)
      rw [if_neg (by unfold timesB; rw [decide_eq_false hl]; simp)]
      refine OKat.of_body (rs := [4]) Try.func47 rfl (by decide +kernel) rfl (by simp [Try.ntmps47]) ?_
      simp only [Try.ntmps47]
      repeat' first
        | apply jA | apply jB | apply jC | apply jD | apply jE | apply jF | apply jG | apply jH | apply jI | apply jJ
        | refine W.draw cx_mixed (by decide +kernel) ?_
        | ((first | (apply jK cx_ok; decide) | (apply jL cx_ok; decide; decide) | apply jM cx_ok | (apply jN; rfl; decide) | (apply jO; rfl; decide; decide) | apply jR); (simp (disch := omega) only [push_cast, simprocAttr, hc, hlF] <;> rfl); all_goals try ((with_reducible intro hI); try first | (cases hI; done) | (simp only [INTS, zL] at hI; try first | (exfalso; omega) | (have hT : True := hI; clear hT hI))))
        | ((first | (apply jV cx_ok; decide) | (apply jW cx_ok; decide; decide)); (iterate 2 (simp (disch := omega) only [push_cast, simprocAttr, hc, hlF] <;> rfl)); (with_reducible first | exact Check_ok r | exact hb); try first | rfl | (simp (disch := omega) only [push_cast, simprocAttr, hc, hlF] <;> rfl))
        | ((first | apply jf | apply jg); (iterate 2 (try (simp (disch := omega) only [push_cast, simprocAttr, hc, hlF] <;> rfl))))

      all_goals (show _ = _; rfl)
  · rw [if_neg hc]
    have hcF : (checkE r = 0) = False := eq_false hc
    refine OKat.of_body (rs := [4]) Try.func47 rfl (by decide +kernel) rfl (by simp [Try.ntmps47]) ?_
    simp only [Try.ntmps47]
    repeat' first
      | apply jA | apply jB | apply jC | apply jD | apply jE | apply jF | apply jG | apply jH | apply jI | apply jJ
      | refine W.draw cx_mixed (by decide +kernel) ?_
      | ((first | (apply jK cx_ok; decide) | (apply jL cx_ok; decide; decide) | apply jM cx_ok | (apply jN; rfl; decide) | (apply jO; rfl; decide; decide) | apply jR); (simp (disch := omega) only [push_cast, simprocAttr, hcF] <;> rfl); all_goals try ((with_reducible intro hI); try first | (cases hI; done) | (simp only [INTS, zL] at hI; try first | (exfalso; omega) | (have hT : True := hI; clear hT hI))))
      | ((first | (apply jV cx_ok; decide) | (apply jW cx_ok; decide; decide)); (iterate 2 (simp (disch := omega) only [push_cast, simprocAttr, hcF] <;> rfl)); (with_reducible first | exact Check_ok r); try first | rfl | (simp (disch := omega) only [push_cast, simprocAttr, hcF] <;> rfl))
      | ((first | apply jf | apply jg); (iterate 2 (try (simp (disch := omega) only [push_cast, simprocAttr, hcF] <;> rfl))))

    all_goals (show _ = _; rfl)
end Go.Proofs.Ks
