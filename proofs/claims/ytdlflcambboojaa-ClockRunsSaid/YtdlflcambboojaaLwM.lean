/-
  Contracts of functions, proved by going through their code. No conditions.
-/
import Derived.Test.YtdlflcambboojaaKaa
import Derived.Test.YtdlflcambboojaaKbb
import Derived.Test.YtdlflcambboojaaKbf
import Derived.Test.YtdlflcambboojaaLwA
import Derived.Test.YtdlflcambboojaaKoE
set_option linter.unusedVariables false
set_option linter.unusedSimpArgs false
set_option maxHeartbeats 8000000
set_option maxRecDepth 10000
namespace Go.Proofs.Ks
open Go Go.Pg Go.Proofs
theorem place_go : ∀ {l : List Leg} {o n t : Int} {B : Int}, (∀ y ∈ l, legB y = true) → 0 ≤ o ∧ o ≤ B → 0 ≤ placeF l o n t ∧ placeF l o n t ≤ B + 39600000000 * (l.length : Int)
  | [], o, n, t, B, _, h => by simp only [placeF, zC]; omega
  | y :: l, o, n, t, B, hl, h => by
    have hy := leg_bd (hl y (by simp))
    unfold placeF
    obtain ⟨m1, m2⟩ := mul_bd (a := min (max 0 (t - n)) y.secs) (b := y.rate) (A := 36000) (B := 1100000) (by omega) (by omega) hy.2.2.1 hy.2.2.2.1
    have := place_go (l := l) (o := o + min (max 0 (t - n)) y.secs * y.rate) (n := n + y.secs) (t := t) (B := B + 39600000000) (fun z hz => hl z (List.mem_cons_of_mem _ hz)) (by omega)
    rw [List.length_cons]
    omega
theorem place_bd {x : Run} {t : Int} (hn : x.legs.length ≤ 40) (hl : ∀ y ∈ x.legs, legB y = true) (hm : 0 ≤ x.micro ∧ x.micro < 43200000000) : 0 ≤ placeF x.legs x.micro x.start t ∧ placeF x.legs x.micro x.start t ≤ 2000000000000 := by
  have := place_go (l := x.legs) (o := x.micro) (n := x.start) (t := t) (B := 43200000000) hl (by omega)
  omega
theorem stopsE_lt {fin : Int} : ∀ {l : List Stop} {b : Int}, stopsE fin b l = 0 → (∀ t ∈ l, b < t.pos) ∧ l.Pairwise (fun a c => a.pos ≠ c.pos)
  | [], _, _ => ⟨fun t h => (by cases h), List.Pairwise.nil⟩
  | y :: l, b, h => by
    unfold stopsE at h
    split at h
    · cases h
    · rename_i hc
      obtain ⟨h1, h2⟩ := stopsE_lt h
      have hb : b < y.pos := by
        by_cases e : b < y.pos
        · exact e
        · exact absurd (.inl (by omega)) hc
      refine ⟨fun t ht => ?_, List.pairwise_cons.2 ⟨fun t ht e => ?_, h2⟩⟩
      · rcases List.mem_cons.1 ht with rfl | ht
        · exact hb
        · have := h1 t ht; omega
      · have := h1 t ht; omega
theorem stops_apart {s : Session} (h : checkE ⟨s, [], []⟩ = 0) : s.stops.Pairwise (fun a c => a.pos ≠ c.pos) := by
  have h1 : sessE s = 0 := (checkE_parts h).1
  unfold sessE at h1
  split at h1
  · cases h1
  · split at h1
    · exact (stopsE_lt h1).2
    · cases h1
noncomputable def tail14 : Code := dropS 10 (Try.f14.body.getD .skip)
theorem tail14_ok (x : Run) (t : Int) (hlen : x.legs.length ≤ 60) {s : St} (t2 : s.tm 2 = ai t) (t4 : s.tm 4 = .ptr 1 0 0 1) (t7 : s.tm 7 = ai (runE x)) (t8 : s.tm 8 = ai (needleP x t).1) (t9 : s.tm 9 = ai (needleP x t).2) (hrow : Pg.rowAt s.H 1 = some { k := 3, es := [eRun x], ty := 100 }) (hnx : 2 ≤ s.nx) :
    AW cx 99 tail14 (endQ [6] fun x => x = ab true) s := by
  have c20 := sanity_ok
  delta tail14
  simp only [Try.f14, Option.getD_some, dropS]
  unfold needleP at t8 t9
  by_cases hr : runE x = 0
  · have hx := runE_V hr
    have hsec : ∀ y ∈ x.legs, 1 ≤ y.secs := fun y hy => (leg_bd (hx.legs y hy)).1
    have c70 := End_ok x hx.n hx.legs hx.start hx.micro
    have hpl := fun ht => Place_ok x t hx.n hx.legs hx.start hx.micro ht
    have hst := hx.start
    have hti := hx.time
    have hnp := fun h => need_place (l := x.legs) (o := x.micro) (n := x.start) (t := t) hsec h
    rw [hr] at t7
    rw [if_pos hr] at t8 t9
    obtain ⟨TT, hTT⟩ : ∃ z, x.start + sumT x.legs = z := ⟨_, rfl⟩
    rw [hTT] at c70 t8 t9 hti
    by_cases h1 : t < x.start
    · rw [if_pos (.inl h1)] at t8 t9
      repeat' first
        | apply jA | apply jB | apply jC | apply jD | apply jE | apply jF | apply jG | apply jH | apply jI | apply jJ
        | refine W.draw cx_mixed (by decide +kernel) ?_
        | ((first | (apply jK cx_ok; decide) | (apply jL cx_ok; decide; decide) | apply jM cx_ok | (apply jN; rfl; decide) | (apply jO; rfl; decide; decide) | apply jR); (simp (disch := omega) only [push_cast, simprocAttr, t2, t4, t7, t8, t9, hrow, natNe, zI, zG, zJ, zM, Bool.true_and, zO, beq_self_eq_true, zP, Bool.not_true, Bool.not_false, zW, zC, h1] <;> rfl); all_goals try ((with_reducible intro hI); try first | (cases hI; done) | (simp only [INTS, zL] at hI; try first | (exfalso; omega) | (have hT : True := hI; clear hT hI))))
        | ((first | (apply jP; rfl; decide) | (apply jQ; rfl; decide; decide)); (simp (disch := omega) only [push_cast, simprocAttr, t2, t4, t7, t8, t9, hrow, natNe, zI, zG, zJ, zM, Bool.true_and, zO, beq_self_eq_true, zP, Bool.not_true, Bool.not_false, zW, zC, h1] <;> rfl))
        | ((first | (apply jV cx_ok; decide) | (apply jW cx_ok; decide; decide)); (iterate 2 (simp (disch := omega) only [push_cast, simprocAttr, t2, t4, t7, t8, t9, hrow, natNe, zI, zG, zJ, zM, Bool.true_and, zO, beq_self_eq_true, zP, Bool.not_true, Bool.not_false, zW, zC, h1] <;> rfl)); (with_reducible first | exact c20 | exact c70); try first | rfl | (simp (disch := omega) only [push_cast, simprocAttr, t2, t4, t7, t8, t9, hrow, natNe, zI, zG, zJ, zM, Bool.true_and, zO, beq_self_eq_true, zP, Bool.not_true, Bool.not_false, zW, zC, h1] <;> rfl))
        | ((first | apply jn | apply jo | apply jl | apply jm | apply jf | apply jg | apply jh | apply ji | apply jj | apply jk | apply jd | apply je); (iterate 2 (try (simp (disch := omega) only [push_cast, simprocAttr, t2, t4, t7, t8, t9, hrow, natNe, zI, zG, zJ, zM, Bool.true_and, zO, beq_self_eq_true, zP, Bool.not_true, Bool.not_false, zW, zC, h1] <;> rfl))))

      all_goals (show _ = _; rfl)
    · by_cases h2 : TT < t
      · rw [if_pos (.inr h2)] at t8 t9
        repeat' first
          | apply jA | apply jB | apply jC | apply jD | apply jE | apply jF | apply jG | apply jH | apply jI | apply jJ
          | refine W.draw cx_mixed (by decide +kernel) ?_
          | ((first | (apply jK cx_ok; decide) | (apply jL cx_ok; decide; decide) | apply jM cx_ok | (apply jN; rfl; decide) | (apply jO; rfl; decide; decide) | apply jR); (simp (disch := omega) only [push_cast, simprocAttr, t2, t4, t7, t8, t9, hrow, natNe, zI, zG, zJ, zM, Bool.true_and, zO, beq_self_eq_true, zP, Bool.not_true, Bool.not_false, zW, zC, h1, h2] <;> rfl); all_goals try ((with_reducible intro hI); try first | (cases hI; done) | (simp only [INTS, zL] at hI; try first | (exfalso; omega) | (have hT : True := hI; clear hT hI))))
          | ((first | (apply jP; rfl; decide) | (apply jQ; rfl; decide; decide)); (simp (disch := omega) only [push_cast, simprocAttr, t2, t4, t7, t8, t9, hrow, natNe, zI, zG, zJ, zM, Bool.true_and, zO, beq_self_eq_true, zP, Bool.not_true, Bool.not_false, zW, zC, h1, h2] <;> rfl))
          | ((first | (apply jV cx_ok; decide) | (apply jW cx_ok; decide; decide)); (iterate 2 (simp (disch := omega) only [push_cast, simprocAttr, t2, t4, t7, t8, t9, hrow, natNe, zI, zG, zJ, zM, Bool.true_and, zO, beq_self_eq_true, zP, Bool.not_true, Bool.not_false, zW, zC, h1, h2] <;> rfl)); (with_reducible first | exact c20 | exact c70); try first | rfl | (simp (disch := omega) only [push_cast, simprocAttr, t2, t4, t7, t8, t9, hrow, natNe, zI, zG, zJ, zM, Bool.true_and, zO, beq_self_eq_true, zP, Bool.not_true, Bool.not_false, zW, zC, h1, h2] <;> rfl))
          | ((first | apply jn | apply jo | apply jl | apply jm | apply jf | apply jg | apply jh | apply ji | apply jj | apply jk | apply jd | apply je); (iterate 2 (try (simp (disch := omega) only [push_cast, simprocAttr, t2, t4, t7, t8, t9, hrow, natNe, zI, zG, zJ, zM, Bool.true_and, zO, beq_self_eq_true, zP, Bool.not_true, Bool.not_false, zW, zC, h1, h2] <;> rfl))))

        all_goals (show _ = _; rfl)
      · rw [if_neg (fun h => h.elim h1 h2)] at t8 t9
        have c71 := hpl (by omega)
        rw [hnp (by omega)] at t8
        obtain ⟨V, hV⟩ : ∃ z, placeF x.legs x.micro x.start t = z := ⟨_, rfl⟩
        have hV0 : 0 ≤ V ∧ V ≤ 2000000000000 := by
          rw [← hV]
          exact place_bd hx.n hx.legs hx.micro
        rw [hV] at c71 t8
        obtain ⟨v1, v2⟩ := hV0
        repeat' first
          | apply jA | apply jB | apply jC | apply jD | apply jE | apply jF | apply jG | apply jH | apply jI | apply jJ
          | refine W.draw cx_mixed (by decide +kernel) ?_
          | ((first | (apply jK cx_ok; decide) | (apply jL cx_ok; decide; decide) | apply jM cx_ok | (apply jN; rfl; decide) | (apply jO; rfl; decide; decide) | apply jR); (simp (disch := omega) only [push_cast, simprocAttr, t2, t4, t7, t8, t9, hrow, natNe, zI, zG, zJ, zM, Bool.true_and, zO, beq_self_eq_true, zP, Bool.not_true, Bool.not_false, zW, zC, h1, h2, v1] <;> rfl); all_goals try ((with_reducible intro hI); try first | (cases hI; done) | (simp only [INTS, zL] at hI; try first | (exfalso; omega) | (have hT : True := hI; clear hT hI))))
          | ((first | (apply jP; rfl; decide) | (apply jQ; rfl; decide; decide)); (simp (disch := omega) only [push_cast, simprocAttr, t2, t4, t7, t8, t9, hrow, natNe, zI, zG, zJ, zM, Bool.true_and, zO, beq_self_eq_true, zP, Bool.not_true, Bool.not_false, zW, zC, h1, h2, v1] <;> rfl))
          | ((first | (apply jV cx_ok; decide) | (apply jW cx_ok; decide; decide)); (iterate 2 (simp (disch := omega) only [push_cast, simprocAttr, t2, t4, t7, t8, t9, hrow, natNe, zI, zG, zJ, zM, Bool.true_and, zO, beq_self_eq_true, zP, Bool.not_true, Bool.not_false, zW, zC, h1, h2, v1] <;> rfl)); (with_reducible first | exact c20 | exact c70 | exact c71); try first | rfl | (simp (disch := omega) only [push_cast, simprocAttr, t2, t4, t7, t8, t9, hrow, natNe, zI, zG, zJ, zM, Bool.true_and, zO, beq_self_eq_true, zP, Bool.not_true, Bool.not_false, zW, zC, h1, h2, v1] <;> rfl))
          | ((first | apply jn | apply jo | apply jl | apply jm | apply jf | apply jg | apply jh | apply ji | apply jj | apply jk | apply jd | apply je); (iterate 2 (try (simp (disch := omega) only [push_cast, simprocAttr, t2, t4, t7, t8, t9, hrow, natNe, zI, zG, zJ, zM, Bool.true_and, zO, beq_self_eq_true, zP, Bool.not_true, Bool.not_false, zW, zC, h1, h2, v1] <;> rfl))))

        all_goals (show _ = _; rfl)
  · have hrF : (runE x = 0) = False := eq_false hr
    rw [if_neg hr] at t8 t9
    obtain ⟨E, hE⟩ : ∃ z, runE x = z := ⟨_, rfl⟩
    rw [hE] at t7 t9 hrF
    repeat' first
      | apply jA | apply jB | apply jC | apply jD | apply jE | apply jF | apply jG | apply jH | apply jI | apply jJ
      | refine W.draw cx_mixed (by decide +kernel) ?_
      | ((first | (apply jK cx_ok; decide) | (apply jL cx_ok; decide; decide) | apply jM cx_ok | (apply jN; rfl; decide) | (apply jO; rfl; decide; decide) | apply jR); (simp (disch := omega) only [push_cast, simprocAttr, t2, t4, t7, t8, t9, hrow, natNe, zI, zG, zJ, zM, Bool.true_and, zO, beq_self_eq_true, zP, Bool.not_true, Bool.not_false, zW, zC, hrF] <;> rfl); all_goals try ((with_reducible intro hI); try first | (cases hI; done) | (simp only [INTS, zL] at hI; try first | (exfalso; omega) | (have hT : True := hI; clear hT hI))))
      | ((first | (apply jP; rfl; decide) | (apply jQ; rfl; decide; decide)); (simp (disch := omega) only [push_cast, simprocAttr, t2, t4, t7, t8, t9, hrow, natNe, zI, zG, zJ, zM, Bool.true_and, zO, beq_self_eq_true, zP, Bool.not_true, Bool.not_false, zW, zC, hrF] <;> rfl))
      | ((first | (apply jV cx_ok; decide) | (apply jW cx_ok; decide; decide)); (iterate 2 (simp (disch := omega) only [push_cast, simprocAttr, t2, t4, t7, t8, t9, hrow, natNe, zI, zG, zJ, zM, Bool.true_and, zO, beq_self_eq_true, zP, Bool.not_true, Bool.not_false, zW, zC, hrF] <;> rfl)); (with_reducible first | exact c20); try first | rfl | (simp (disch := omega) only [push_cast, simprocAttr, t2, t4, t7, t8, t9, hrow, natNe, zI, zG, zJ, zM, Bool.true_and, zO, beq_self_eq_true, zP, Bool.not_true, Bool.not_false, zW, zC, hrF] <;> rfl))
      | ((first | apply jn | apply jo | apply jl | apply jm | apply jf | apply jg | apply jh | apply ji | apply jj | apply jk | apply jd | apply je); (iterate 2 (try (simp (disch := omega) only [push_cast, simprocAttr, t2, t4, t7, t8, t9, hrow, natNe, zI, zG, zJ, zM, Bool.true_and, zO, beq_self_eq_true, zP, Bool.not_true, Bool.not_false, zW, zC, hrF] <;> rfl))))

    all_goals (show _ = _; rfl)
theorem law14_ok (ses : Session) (x : Run) (t : Int) : OKv cx 14 [.agg (eSession ses), .agg (eRun x), ai t] (ab true) := by
  have c20 := sanity_ok
  by_cases hs12 : 12 < ses.stops.length
  · have hl1 : (12 : Int) < (ses.stops.length : Int) := by omega
    refine OKat.of_body (rs := [6]) Try.func14 rfl (by decide +kernel) rfl (by simp [Try.ntmps14]) ?_
    simp only [Try.ntmps14]
    repeat' first
      | apply jA | apply jB | apply jC | apply jD | apply jE | apply jF | apply jG | apply jH | apply jI
      | ((first | (apply jK cx_ok; decide) | (apply jN; rfl; decide) | apply jR); (simp (disch := omega) only [push_cast, simprocAttr, hl1, natNe, zI, zG, zJ, zM, Bool.true_and, zO, beq_self_eq_true, zP, Bool.not_true, Bool.not_false, zW, zC] <;> rfl); all_goals try ((with_reducible intro hI); try first | (cases hI; done) | (simp only [INTS, zL] at hI; try first | (exfalso; omega) | (have hT : True := hI; clear hT hI))))
      | ((apply jV cx_ok; decide); (iterate 2 (simp (disch := omega) only [push_cast, simprocAttr, hl1, natNe, zI, zG, zJ, zM, Bool.true_and, zO, beq_self_eq_true, zP, Bool.not_true, Bool.not_false, zW, zC] <;> rfl)); (with_reducible first | exact c20); try first | rfl | (simp (disch := omega) only [push_cast, simprocAttr, hl1, natNe, zI, zG, zJ, zM, Bool.true_and, zO, beq_self_eq_true, zP, Bool.not_true, Bool.not_false, zW, zC] <;> rfl))
      | ((first | apply jf | apply jg); (iterate 2 (try (simp (disch := omega) only [push_cast, simprocAttr, hl1, natNe, zI, zG, zJ, zM, Bool.true_and, zO, beq_self_eq_true, zP, Bool.not_true, Bool.not_false, zW, zC] <;> rfl))))

    all_goals (show _ = _; rfl)
  · have hl1 : ¬ (12 : Int) < (ses.stops.length : Int) := by omega
    by_cases hx60 : 60 < x.legs.length
    · have hl2 : (60 : Int) < (x.legs.length : Int) := by omega
      refine OKat.of_body (rs := [6]) Try.func14 rfl (by decide +kernel) rfl (by simp [Try.ntmps14]) ?_
      simp only [Try.ntmps14]
      repeat' first
        | apply jA | apply jB | apply jC | apply jD | apply jE | apply jF | apply jG | apply jH | apply jI
        | ((first | (apply jK cx_ok; decide) | (apply jN; rfl; decide) | apply jR); (simp (disch := omega) only [push_cast, simprocAttr, hl1, hl2, natNe, zI, zG, zJ, zM, Bool.true_and, zO, beq_self_eq_true, zP, Bool.not_true, Bool.not_false, zW, zC] <;> rfl); all_goals try ((with_reducible intro hI); try first | (cases hI; done) | (simp only [INTS, zL] at hI; try first | (exfalso; omega) | (have hT : True := hI; clear hT hI))))
        | ((apply jV cx_ok; decide); (iterate 2 (simp (disch := omega) only [push_cast, simprocAttr, hl1, hl2, natNe, zI, zG, zJ, zM, Bool.true_and, zO, beq_self_eq_true, zP, Bool.not_true, Bool.not_false, zW, zC] <;> rfl)); (with_reducible first | exact c20); try first | rfl | (simp (disch := omega) only [push_cast, simprocAttr, hl1, hl2, natNe, zI, zG, zJ, zM, Bool.true_and, zO, beq_self_eq_true, zP, Bool.not_true, Bool.not_false, zW, zC] <;> rfl))
        | ((first | apply jf | apply jg); (iterate 2 (try (simp (disch := omega) only [push_cast, simprocAttr, hl1, hl2, natNe, zI, zG, zJ, zM, Bool.true_and, zO, beq_self_eq_true, zP, Bool.not_true, Bool.not_false, zW, zC] <;> rfl))))

      all_goals (show _ = _; rfl)
    · have hl2 : ¬ (60 : Int) < (x.legs.length : Int) := by omega
      have c65 := RCheckRun_ok x (by omega)
      have c68 := CheckRun_ok x (by omega)
      have c66 := Needle_ok x t (by omega)
      have c67 := Plays_ok ses x (by omega)
      have c21 : OKv cx 21 [.agg [ai ses.id, ai ses.inn.lo, ai ses.inn.hi, ai ses.out.lo, ai ses.out.hi, ai ses.zero.lo, ai ses.zero.hi, ai ses.fin.lo, ai ses.fin.hi, ai ses.rate.lo, ai ses.rate.hi, lStop ses.stops, .lst [], .lst []]] (ai (checkE ⟨ses, [], []⟩)) := RCheck_ok ⟨ses, [], []⟩
      obtain ⟨NP, hNP⟩ : ∃ z, needleP x t = z := ⟨_, rfl⟩
      rw [hNP] at c66
      unfold playsE at c67
      by_cases hc : checkE ⟨ses, [], []⟩ = 0
      · rw [if_pos hc] at c67
        rw [hc] at c21
        by_cases hr : runE x = 0
        · have hx := runE_V hr
          rw [if_pos hr, plays_same (stops_apart hc) fun y hy => (leg_bd (hx.legs y hy)).1] at c67
          have c69 := RPlays_ok ses x (checkE_V hc).nstops hx
          rw [hr] at c65 c68
          cases hp : playsB ses x with
          | true =>
            rw [hp, if_pos rfl] at c67
            rw [hp] at c69
            refine OKat.of_body (rs := [6]) Try.func14 rfl (by decide +kernel) rfl (by simp [Try.ntmps14]) ?_
            simp only [Try.ntmps14]
            repeat' first
              | refine AW.seqS (y := tail14) ?_ | apply jA | apply jB | apply jC | apply jD | apply jE | apply jF | apply jG | apply jH | apply jI
              | ((first | (apply jK cx_ok; decide) | (apply jN; rfl; decide) | apply jR); (simp (disch := omega) only [push_cast, simprocAttr, natNe, zI, zG, zJ, zM, Bool.true_and, zO, beq_self_eq_true, zP, Bool.not_true, Bool.not_false, zW, zC, hl1, hl2] <;> rfl); all_goals try ((with_reducible intro hI); try first | (cases hI; done) | (simp only [INTS, zL] at hI; try first | (exfalso; omega) | (have hT : True := hI; clear hT hI))))
              | ((apply jV cx_ok; decide); (iterate 2 (simp (disch := omega) only [push_cast, simprocAttr, natNe, zI, zG, zJ, zM, Bool.true_and, zO, beq_self_eq_true, zP, Bool.not_true, Bool.not_false, zW, zC, hl1, hl2] <;> rfl)); (with_reducible first | exact c65 | exact c66 | exact c67 | exact c68 | exact c21 | exact c69); try first | rfl | (simp (disch := omega) only [push_cast, simprocAttr, natNe, zI, zG, zJ, zM, Bool.true_and, zO, beq_self_eq_true, zP, Bool.not_true, Bool.not_false, zW, zC, hl1, hl2] <;> rfl))
              | ((first | apply jf | apply jg); (iterate 2 (try (simp (disch := omega) only [push_cast, simprocAttr, natNe, zI, zG, zJ, zM, Bool.true_and, zO, beq_self_eq_true, zP, Bool.not_true, Bool.not_false, zW, zC, hl1, hl2] <;> rfl))))

            all_goals first
              | (refine Pg.Stop.mk (tail14_ok x t (by omega) ?_ ?_ ?_ ?_ ?_ ?_ ?_) <;> first | (simp (disch := omega) only [push_cast, simprocAttr, natNe, zI, zG, zJ, zM, Bool.true_and, zO, beq_self_eq_true, zP, Bool.not_true, Bool.not_false, zW, zC, hl1, hl2, hNP, hr] <;> first | rfl | omega) | omega)
              | (exfalso; omega)
          | false =>
            rw [hp, if_neg (by decide)] at c67
            rw [hp] at c69
            refine OKat.of_body (rs := [6]) Try.func14 rfl (by decide +kernel) rfl (by simp [Try.ntmps14]) ?_
            simp only [Try.ntmps14]
            repeat' first
              | refine AW.seqS (y := tail14) ?_ | apply jA | apply jB | apply jC | apply jD | apply jE | apply jF | apply jG | apply jH | apply jI
              | ((first | (apply jK cx_ok; decide) | (apply jN; rfl; decide) | apply jR); (simp (disch := omega) only [push_cast, simprocAttr, natNe, zI, zG, zJ, zM, Bool.true_and, zO, beq_self_eq_true, zP, Bool.not_true, Bool.not_false, zW, zC, hl1, hl2] <;> rfl); all_goals try ((with_reducible intro hI); try first | (cases hI; done) | (simp only [INTS, zL] at hI; try first | (exfalso; omega) | (have hT : True := hI; clear hT hI))))
              | ((apply jV cx_ok; decide); (iterate 2 (simp (disch := omega) only [push_cast, simprocAttr, natNe, zI, zG, zJ, zM, Bool.true_and, zO, beq_self_eq_true, zP, Bool.not_true, Bool.not_false, zW, zC, hl1, hl2] <;> rfl)); (with_reducible first | exact c65 | exact c66 | exact c67 | exact c68 | exact c21 | exact c69); try first | rfl | (simp (disch := omega) only [push_cast, simprocAttr, natNe, zI, zG, zJ, zM, Bool.true_and, zO, beq_self_eq_true, zP, Bool.not_true, Bool.not_false, zW, zC, hl1, hl2] <;> rfl))
              | ((first | apply jf | apply jg); (iterate 2 (try (simp (disch := omega) only [push_cast, simprocAttr, natNe, zI, zG, zJ, zM, Bool.true_and, zO, beq_self_eq_true, zP, Bool.not_true, Bool.not_false, zW, zC, hl1, hl2] <;> rfl))))

            all_goals first
              | (refine Pg.Stop.mk (tail14_ok x t (by omega) ?_ ?_ ?_ ?_ ?_ ?_ ?_) <;> first | (simp (disch := omega) only [push_cast, simprocAttr, natNe, zI, zG, zJ, zM, Bool.true_and, zO, beq_self_eq_true, zP, Bool.not_true, Bool.not_false, zW, zC, hl1, hl2, hNP, hr] <;> first | rfl | omega) | omega)
              | (exfalso; omega)
        · rw [if_neg hr] at c67
          have hrF : (runE x = 0) = False := eq_false hr
          refine OKat.of_body (rs := [6]) Try.func14 rfl (by decide +kernel) rfl (by simp [Try.ntmps14]) ?_
          simp only [Try.ntmps14]
          repeat' first
            | refine AW.seqS (y := tail14) ?_ | apply jA | apply jB | apply jC | apply jD | apply jE | apply jF | apply jG | apply jH | apply jI
            | ((first | (apply jK cx_ok; decide) | (apply jN; rfl; decide) | apply jR); (simp (disch := omega) only [push_cast, simprocAttr, natNe, zI, zG, zJ, zM, Bool.true_and, zO, beq_self_eq_true, zP, Bool.not_true, Bool.not_false, zW, zC, hl1, hl2, hrF] <;> rfl); all_goals try ((with_reducible intro hI); try first | (cases hI; done) | (simp only [INTS, zL] at hI; try first | (exfalso; omega) | (have hT : True := hI; clear hT hI))))
            | ((apply jV cx_ok; decide); (iterate 2 (simp (disch := omega) only [push_cast, simprocAttr, natNe, zI, zG, zJ, zM, Bool.true_and, zO, beq_self_eq_true, zP, Bool.not_true, Bool.not_false, zW, zC, hl1, hl2, hrF] <;> rfl)); (with_reducible first | exact c65 | exact c66 | exact c67 | exact c68 | exact c21); try first | rfl | (simp (disch := omega) only [push_cast, simprocAttr, natNe, zI, zG, zJ, zM, Bool.true_and, zO, beq_self_eq_true, zP, Bool.not_true, Bool.not_false, zW, zC, hl1, hl2, hrF] <;> rfl))
            | ((first | apply jf | apply jg); (iterate 2 (try (simp (disch := omega) only [push_cast, simprocAttr, natNe, zI, zG, zJ, zM, Bool.true_and, zO, beq_self_eq_true, zP, Bool.not_true, Bool.not_false, zW, zC, hl1, hl2, hrF] <;> rfl))))

          all_goals first
            | (refine Pg.Stop.mk (tail14_ok x t (by omega) ?_ ?_ ?_ ?_ ?_ ?_ ?_) <;> first | (simp (disch := omega) only [push_cast, simprocAttr, natNe, zI, zG, zJ, zM, Bool.true_and, zO, beq_self_eq_true, zP, Bool.not_true, Bool.not_false, zW, zC, hl1, hl2, hNP, hrF] <;> first | rfl | omega) | omega)
            | (exfalso; omega)
      · rw [if_neg hc] at c67
        have hcF : (checkE ⟨ses, [], []⟩ = 0) = False := eq_false hc
        obtain ⟨CE, hCE⟩ : ∃ z, checkE ⟨ses, [], []⟩ = z := ⟨_, rfl⟩
        rw [hCE] at c67 c21 hcF
        refine OKat.of_body (rs := [6]) Try.func14 rfl (by decide +kernel) rfl (by simp [Try.ntmps14]) ?_
        simp only [Try.ntmps14]
        repeat' first
          | refine AW.seqS (y := tail14) ?_ | apply jA | apply jB | apply jC | apply jD | apply jE | apply jF | apply jG | apply jH | apply jI
          | ((first | (apply jK cx_ok; decide) | (apply jN; rfl; decide) | apply jR); (simp (disch := omega) only [push_cast, simprocAttr, natNe, zI, zG, zJ, zM, Bool.true_and, zO, beq_self_eq_true, zP, Bool.not_true, Bool.not_false, zW, zC, hl1, hl2, hcF] <;> rfl); all_goals try ((with_reducible intro hI); try first | (cases hI; done) | (simp only [INTS, zL] at hI; try first | (exfalso; omega) | (have hT : True := hI; clear hT hI))))
          | ((apply jV cx_ok; decide); (iterate 2 (simp (disch := omega) only [push_cast, simprocAttr, natNe, zI, zG, zJ, zM, Bool.true_and, zO, beq_self_eq_true, zP, Bool.not_true, Bool.not_false, zW, zC, hl1, hl2, hcF] <;> rfl)); (with_reducible first | exact c65 | exact c66 | exact c67 | exact c68 | exact c21); try first | rfl | (simp (disch := omega) only [push_cast, simprocAttr, natNe, zI, zG, zJ, zM, Bool.true_and, zO, beq_self_eq_true, zP, Bool.not_true, Bool.not_false, zW, zC, hl1, hl2, hcF] <;> rfl))
          | ((first | apply jf | apply jg); (iterate 2 (try (simp (disch := omega) only [push_cast, simprocAttr, natNe, zI, zG, zJ, zM, Bool.true_and, zO, beq_self_eq_true, zP, Bool.not_true, Bool.not_false, zW, zC, hl1, hl2, hcF] <;> rfl))))

        all_goals first
          | (refine Pg.Stop.mk (tail14_ok x t (by omega) ?_ ?_ ?_ ?_ ?_ ?_ ?_) <;> first | (simp (disch := omega) only [push_cast, simprocAttr, natNe, zI, zG, zJ, zM, Bool.true_and, zO, beq_self_eq_true, zP, Bool.not_true, Bool.not_false, zW, zC, hl1, hl2, hNP, hcF] <;> first | rfl | omega) | omega)
          | (exfalso; omega)
end Go.Proofs.Ks
