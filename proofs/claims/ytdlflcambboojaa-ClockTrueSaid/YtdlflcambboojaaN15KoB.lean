/-
  Contracts of functions, proved by going through their code. No conditions.
-/
import Derived.Test.YtdlflcambboojaaRaa
import Derived.Test.YtdlflcambboojaaRbd
import Derived.Test.YtdlflcambboojaaN15KoA
set_option linter.unusedVariables false
set_option linter.unusedSimpArgs false
set_option maxHeartbeats 8000000
set_option maxRecDepth 10000
namespace Go.Proofs.Ks
open Go Go.Pg Go.Proofs
theorem hasE (y : Span) (v : Int) (b : Bool) (h : hasB y v = b) : OKv cx 106 [.agg (eSpan y), ai v] (ab b) := by rw [← h]; exact has_ok y v
theorem len_le {α : Type} {l : List α} {k : Nat} {x : α} {r : List α} (h : l.drop k = x :: r) : k + 1 ≤ l.length := by
  have := congrArg List.length h
  rw [List.length_drop, List.length_cons] at this
  omega
def tailB (st : List Stop) (m : ZM) : Bool := match stopsF st m with
  | some m' => decide (m'.length = 0)
  | none => false
def restB (s : Session) (l : List Leg) (p : Int) (m : ZM) : Bool := match legsF s.rate l p m with
  | some m' => tailB s.stops m'
  | none => false
theorem playsM_eq (s : Session) (x : Run) : playsM s x = (endsB s x && restB s x.legs x.micro []) := rfl
theorem restB_nil (s : Session) (p : Int) (m : ZM) : restB s [] p m = tailB s.stops m := rfl
theorem tailB_nil (m : ZM) : tailB [] m = decide (m.length = 0) := rfl
theorem restB_cons (s : Session) (l : Leg) (r : List Leg) (p : Int) (m : ZM) : restB s (l :: r) p m = if l.rate = 0 then restB s r (p + l.secs * l.rate) (putZ (p / 1000000) (getZ (p / 1000000) m + l.secs) m) else if hasB s.rate l.rate = true then restB s r (p + l.secs * l.rate) m else false := by
  unfold restB
  rw [legsF]
  by_cases h0 : l.rate = 0
  · rw [if_pos h0, if_pos h0]
  · rw [if_neg h0, if_neg h0]
    by_cases h1 : hasB s.rate l.rate = true
    · rw [if_pos h1, if_pos h1]
    · rw [if_neg h1, if_neg h1]
theorem tailB_cons (t : Stop) (r : List Stop) (m : ZM) : tailB (t :: r) m = if hasB t.secs (getZ t.pos m) = true then tailB r (delZ t.pos m) else false := by
  unfold tailB
  rw [stopsF]
  by_cases h1 : hasB t.secs (getZ t.pos m) = true
  · rw [if_pos h1, if_pos h1]
  · rw [if_neg h1, if_neg h1]
def playsE (s : Session) (x : Run) : Int := if checkE ⟨s, [], []⟩ = 0 then (if runE x = 0 then (if playsM s x = true then 0 else 8) else runE x) else checkE ⟨s, [], []⟩
theorem Plays_ok (ses : Session) (x : Run) (hlen : x.legs.length ≤ 1099511627776) : OKv cx 67 [.agg (eSession ses), .agg (eRun x)] (ai (playsE ses x)) := by
  unfold playsE
  have c33 : OKv cx 33 [.agg [ai ses.id, ai ses.inn.lo, ai ses.inn.hi, ai ses.out.lo, ai ses.out.hi, ai ses.zero.lo, ai ses.zero.hi, ai ses.fin.lo, ai ses.fin.hi, ai ses.rate.lo, ai ses.rate.hi, lStop ses.stops, .lst [], .lst []]] (ai (checkE ⟨ses, [], []⟩)) := Check_ok ⟨ses, [], []⟩
  have c68 := CheckRun_ok x hlen
  by_cases hc : checkE ⟨ses, [], []⟩ = 0
  rotate_left
  · rw [if_neg hc]
    have hcF : (checkE ⟨ses, [], []⟩ = 0) = False := eq_false hc
    obtain ⟨E, hE⟩ : ∃ z, checkE ⟨ses, [], []⟩ = z := ⟨_, rfl⟩
    rw [hE] at c33 hcF ⊢
    refine OKat.of_body (rs := [4]) Try.func67 rfl (by decide +kernel) rfl (by simp [Try.ntmps67]) ?_
    simp only [Try.ntmps67]
    repeat' first
      | ((first | apply W.mapDelete cx_ok | (apply W.mapLen cx_ok; decide)); (simp (disch := omega) only [push_cast, simprocAttr, hcF, natNe, zI, zG, zJ, zM, Bool.true_and, zO, beq_self_eq_true, zP, Bool.not_true, zW, zC, mapDelA, mapLenA] <;> rfl))
      | apply jA | apply jB | apply jC | apply jD | apply jE | apply jF | apply jG | apply jH | apply jI
      | ((first | (apply jK cx_ok; decide) | apply jM cx_ok | (apply jN; rfl; decide) | apply jR | apply jS cx_ok); (simp (disch := omega) only [push_cast, simprocAttr, hcF, natNe, zI, zG, zJ, zM, Bool.true_and, zO, beq_self_eq_true, zP, Bool.not_true, zW, zC] <;> rfl); all_goals try ((with_reducible intro hI); try first | (cases hI; done) | (simp only [INTS, zL] at hI; try first | (exfalso; omega) | (have hT : True := hI; clear hT hI))))
      | (refine W.makeMap cx_ok (by simp only [push_cast, simprocAttr] <;> rfl) (by decide) ?_)
      | ((apply jV cx_ok; decide); (iterate 2 (simp (disch := omega) only [push_cast, simprocAttr, hcF, natNe, zI, zG, zJ, zM, Bool.true_and, zO, beq_self_eq_true, zP, Bool.not_true, zW, zC] <;> rfl)); (with_reducible first | exact c33); try first | rfl | (simp (disch := omega) only [push_cast, simprocAttr, hcF, natNe, zI, zG, zJ, zM, Bool.true_and, zO, beq_self_eq_true, zP, Bool.not_true, zW, zC] <;> rfl))
      | ((first | apply jf | apply jg); (iterate 2 (try (simp (disch := omega) only [push_cast, simprocAttr, hcF, natNe, zI, zG, zJ, zM, Bool.true_and, zO, beq_self_eq_true, zP, Bool.not_true, zW, zC] <;> rfl))))

    all_goals (show _ = _; rfl)
  have hv := checkE_V hc
  have hst : ses.stops.length ≤ 4 := hv.nstops
  rw [if_pos hc]
  rw [hc] at c33
  by_cases hr : runE x = 0
  rotate_left
  · rw [if_neg hr]
    have hrF : (runE x = 0) = False := eq_false hr
    obtain ⟨E, hE⟩ : ∃ z, runE x = z := ⟨_, rfl⟩
    rw [hE] at c68 hrF ⊢
    refine OKat.of_body (rs := [4]) Try.func67 rfl (by decide +kernel) rfl (by simp [Try.ntmps67]) ?_
    simp only [Try.ntmps67]
    repeat' first
      | ((first | apply W.mapDelete cx_ok | (apply W.mapLen cx_ok; decide)); (simp (disch := omega) only [push_cast, simprocAttr, hrF, natNe, zI, zG, zJ, zM, Bool.true_and, zO, beq_self_eq_true, zP, Bool.not_true, zW, zC, mapDelA, mapLenA] <;> rfl))
      | apply jA | apply jB | apply jC | apply jD | apply jE | apply jF | apply jG | apply jH | apply jI
      | ((first | (apply jK cx_ok; decide) | apply jM cx_ok | (apply jN; rfl; decide) | apply jR | apply jS cx_ok); (simp (disch := omega) only [push_cast, simprocAttr, hrF, natNe, zI, zG, zJ, zM, Bool.true_and, zO, beq_self_eq_true, zP, Bool.not_true, zW, zC] <;> rfl); all_goals try ((with_reducible intro hI); try first | (cases hI; done) | (simp only [INTS, zL] at hI; try first | (exfalso; omega) | (have hT : True := hI; clear hT hI))))
      | (refine W.makeMap cx_ok (by simp only [push_cast, simprocAttr] <;> rfl) (by decide) ?_)
      | ((apply jV cx_ok; decide); (iterate 2 (simp (disch := omega) only [push_cast, simprocAttr, hrF, natNe, zI, zG, zJ, zM, Bool.true_and, zO, beq_self_eq_true, zP, Bool.not_true, zW, zC] <;> rfl)); (with_reducible first | exact c33 | exact c68); try first | rfl | (simp (disch := omega) only [push_cast, simprocAttr, hrF, natNe, zI, zG, zJ, zM, Bool.true_and, zO, beq_self_eq_true, zP, Bool.not_true, zW, zC] <;> rfl))
      | ((first | apply jf | apply jg); (iterate 2 (try (simp (disch := omega) only [push_cast, simprocAttr, hrF, natNe, zI, zG, zJ, zM, Bool.true_and, zO, beq_self_eq_true, zP, Bool.not_true, zW, zC] <;> rfl))))

    all_goals (show _ = _; rfl)
  rw [if_pos hr]
  rw [hr] at c68
  have hx := runE_V hr
  have c105 := end_ok x hx
  obtain ⟨z1, z2⟩ := hx.micro
  have z4 := hx.place
  have hn40 := hx.n
  have z3 : 0 ≤ x.micro + sumP x.legs := by
    have key : ∀ l : List Leg, (∀ y ∈ l, legB y = true) → 0 ≤ sumP l := by
      intro l
      induction l with
      | nil => intro _; exact Int.le_refl _
      | cons y l ih =>
        intro h
        have := (leg_bd (h y (by simp))).2.2.2.2.1
        have := ih fun z hz => h z (List.mem_cons_of_mem _ hz)
        simp only [sumP]; omega
    have := key x.legs hx.legs
    omega
  rw [playsM_eq]
  unfold endsB
  obtain ⟨TT, hTT⟩ : ∃ z, x.start + sumT x.legs = z := ⟨_, rfl⟩
  obtain ⟨PP, hPP⟩ : ∃ z, x.micro + sumP x.legs = z := ⟨_, rfl⟩
  rw [hTT, hPP] at c105 ⊢
  rw [hPP] at z3 z4
  cases e1 : hasB ses.inn x.start with
  | false =>
    have hE1 := hasE _ _ _ e1
    simp only [Bool.false_and, Bool.true_and, zM, if_false]
    refine OKat.of_body (rs := [4]) Try.func67 rfl (by decide +kernel) rfl (by simp [Try.ntmps67]) ?_
    simp only [Try.ntmps67]
    repeat' first
      | ((first | apply W.mapDelete cx_ok | (apply W.mapLen cx_ok; decide)); (simp (disch := omega) only [push_cast, simprocAttr, hc, hr, z1, z2, z3, z4, natNe, zI, zG, zJ, zM, Bool.true_and, zO, beq_self_eq_true, zP, Bool.not_true, zW, zC, mapDelA, mapLenA] <;> rfl))
      | apply jA | apply jB | apply jC | apply jD | apply jE | apply jF | apply jG | apply jH | apply jI
      | ((first | (apply jK cx_ok; decide) | apply jM cx_ok | (apply jN; rfl; decide) | apply jR | apply jS cx_ok); (simp (disch := omega) only [push_cast, simprocAttr, hc, hr, z1, z2, z3, z4, natNe, zI, zG, zJ, zM, Bool.true_and, zO, beq_self_eq_true, zP, Bool.not_true, zW, zC] <;> rfl); all_goals try ((with_reducible intro hI); try first | (cases hI; done) | (simp only [INTS, zL] at hI; try first | (exfalso; omega) | (have hT : True := hI; clear hT hI))))
      | (refine W.makeMap cx_ok (by simp only [push_cast, simprocAttr] <;> rfl) (by decide) ?_)
      | ((apply jV cx_ok; decide); (iterate 2 (simp (disch := omega) only [push_cast, simprocAttr, hc, hr, z1, z2, z3, z4, natNe, zI, zG, zJ, zM, Bool.true_and, zO, beq_self_eq_true, zP, Bool.not_true, zW, zC] <;> rfl)); (with_reducible first | exact c33 | exact c68 | exact c105 | exact hE1); try first | rfl | (simp (disch := omega) only [push_cast, simprocAttr, hc, hr, z1, z2, z3, z4, natNe, zI, zG, zJ, zM, Bool.true_and, zO, beq_self_eq_true, zP, Bool.not_true, zW, zC] <;> rfl))
      | ((first | apply jf | apply jg); (iterate 2 (try (simp (disch := omega) only [push_cast, simprocAttr, hc, hr, z1, z2, z3, z4, natNe, zI, zG, zJ, zM, Bool.true_and, zO, beq_self_eq_true, zP, Bool.not_true, zW, zC] <;> rfl))))

    all_goals (show _ = _; rfl)
  | true =>
  have hE1 := hasE _ _ _ e1
  cases e2 : hasB ses.out TT with
  | false =>
    have hE2 := hasE _ _ _ e2
    simp only [Bool.false_and, Bool.true_and, zM, if_false]
    refine OKat.of_body (rs := [4]) Try.func67 rfl (by decide +kernel) rfl (by simp [Try.ntmps67]) ?_
    simp only [Try.ntmps67]
    repeat' first
      | ((first | apply W.mapDelete cx_ok | (apply W.mapLen cx_ok; decide)); (simp (disch := omega) only [push_cast, simprocAttr, hc, hr, z1, z2, z3, z4, natNe, zI, zG, zJ, zM, Bool.true_and, zO, beq_self_eq_true, zP, Bool.not_true, zW, zC, mapDelA, mapLenA] <;> rfl))
      | apply jA | apply jB | apply jC | apply jD | apply jE | apply jF | apply jG | apply jH | apply jI
      | ((first | (apply jK cx_ok; decide) | apply jM cx_ok | (apply jN; rfl; decide) | apply jR | apply jS cx_ok); (simp (disch := omega) only [push_cast, simprocAttr, hc, hr, z1, z2, z3, z4, natNe, zI, zG, zJ, zM, Bool.true_and, zO, beq_self_eq_true, zP, Bool.not_true, zW, zC] <;> rfl); all_goals try ((with_reducible intro hI); try first | (cases hI; done) | (simp only [INTS, zL] at hI; try first | (exfalso; omega) | (have hT : True := hI; clear hT hI))))
      | (refine W.makeMap cx_ok (by simp only [push_cast, simprocAttr] <;> rfl) (by decide) ?_)
      | ((apply jV cx_ok; decide); (iterate 2 (simp (disch := omega) only [push_cast, simprocAttr, hc, hr, z1, z2, z3, z4, natNe, zI, zG, zJ, zM, Bool.true_and, zO, beq_self_eq_true, zP, Bool.not_true, zW, zC] <;> rfl)); (with_reducible first | exact c33 | exact c68 | exact c105 | exact hE1 | exact hE2); try first | rfl | (simp (disch := omega) only [push_cast, simprocAttr, hc, hr, z1, z2, z3, z4, natNe, zI, zG, zJ, zM, Bool.true_and, zO, beq_self_eq_true, zP, Bool.not_true, zW, zC] <;> rfl))
      | ((first | apply jf | apply jg); (iterate 2 (try (simp (disch := omega) only [push_cast, simprocAttr, hc, hr, z1, z2, z3, z4, natNe, zI, zG, zJ, zM, Bool.true_and, zO, beq_self_eq_true, zP, Bool.not_true, zW, zC] <;> rfl))))

    all_goals (show _ = _; rfl)
  | true =>
  have hE2 := hasE _ _ _ e2
  cases e3 : hasB ses.zero (x.micro / 1000000) with
  | false =>
    have hE3 := hasE _ _ _ e3
    simp only [Bool.false_and, Bool.true_and, zM, if_false]
    refine OKat.of_body (rs := [4]) Try.func67 rfl (by decide +kernel) rfl (by simp [Try.ntmps67]) ?_
    simp only [Try.ntmps67]
    repeat' first
      | ((first | apply W.mapDelete cx_ok | (apply W.mapLen cx_ok; decide)); (simp (disch := omega) only [push_cast, simprocAttr, hc, hr, z1, z2, z3, z4, natNe, zI, zG, zJ, zM, Bool.true_and, zO, beq_self_eq_true, zP, Bool.not_true, zW, zC, mapDelA, mapLenA] <;> rfl))
      | apply jA | apply jB | apply jC | apply jD | apply jE | apply jF | apply jG | apply jH | apply jI
      | ((first | (apply jK cx_ok; decide) | apply jM cx_ok | (apply jN; rfl; decide) | apply jR | apply jS cx_ok); (simp (disch := omega) only [push_cast, simprocAttr, hc, hr, z1, z2, z3, z4, natNe, zI, zG, zJ, zM, Bool.true_and, zO, beq_self_eq_true, zP, Bool.not_true, zW, zC] <;> rfl); all_goals try ((with_reducible intro hI); try first | (cases hI; done) | (simp only [INTS, zL] at hI; try first | (exfalso; omega) | (have hT : True := hI; clear hT hI))))
      | (refine W.makeMap cx_ok (by simp only [push_cast, simprocAttr] <;> rfl) (by decide) ?_)
      | ((apply jV cx_ok; decide); (iterate 2 (simp (disch := omega) only [push_cast, simprocAttr, hc, hr, z1, z2, z3, z4, natNe, zI, zG, zJ, zM, Bool.true_and, zO, beq_self_eq_true, zP, Bool.not_true, zW, zC] <;> rfl)); (with_reducible first | exact c33 | exact c68 | exact c105 | exact hE1 | exact hE2 | exact hE3); try first | rfl | (simp (disch := omega) only [push_cast, simprocAttr, hc, hr, z1, z2, z3, z4, natNe, zI, zG, zJ, zM, Bool.true_and, zO, beq_self_eq_true, zP, Bool.not_true, zW, zC] <;> rfl))
      | ((first | apply jf | apply jg); (iterate 2 (try (simp (disch := omega) only [push_cast, simprocAttr, hc, hr, z1, z2, z3, z4, natNe, zI, zG, zJ, zM, Bool.true_and, zO, beq_self_eq_true, zP, Bool.not_true, zW, zC] <;> rfl))))

    all_goals (show _ = _; rfl)
  | true =>
  have hE3 := hasE _ _ _ e3
  cases e4 : hasB ses.fin (PP / 1000000) with
  | false =>
    have hE4 := hasE _ _ _ e4
    simp only [Bool.false_and, Bool.true_and, zM, if_false]
    refine OKat.of_body (rs := [4]) Try.func67 rfl (by decide +kernel) rfl (by simp [Try.ntmps67]) ?_
    simp only [Try.ntmps67]
    repeat' first
      | ((first | apply W.mapDelete cx_ok | (apply W.mapLen cx_ok; decide)); (simp (disch := omega) only [push_cast, simprocAttr, hc, hr, z1, z2, z3, z4, natNe, zI, zG, zJ, zM, Bool.true_and, zO, beq_self_eq_true, zP, Bool.not_true, zW, zC, mapDelA, mapLenA] <;> rfl))
      | apply jA | apply jB | apply jC | apply jD | apply jE | apply jF | apply jG | apply jH | apply jI
      | ((first | (apply jK cx_ok; decide) | apply jM cx_ok | (apply jN; rfl; decide) | apply jR | apply jS cx_ok); (simp (disch := omega) only [push_cast, simprocAttr, hc, hr, z1, z2, z3, z4, natNe, zI, zG, zJ, zM, Bool.true_and, zO, beq_self_eq_true, zP, Bool.not_true, zW, zC] <;> rfl); all_goals try ((with_reducible intro hI); try first | (cases hI; done) | (simp only [INTS, zL] at hI; try first | (exfalso; omega) | (have hT : True := hI; clear hT hI))))
      | (refine W.makeMap cx_ok (by simp only [push_cast, simprocAttr] <;> rfl) (by decide) ?_)
      | ((apply jV cx_ok; decide); (iterate 2 (simp (disch := omega) only [push_cast, simprocAttr, hc, hr, z1, z2, z3, z4, natNe, zI, zG, zJ, zM, Bool.true_and, zO, beq_self_eq_true, zP, Bool.not_true, zW, zC] <;> rfl)); (with_reducible first | exact c33 | exact c68 | exact c105 | exact hE1 | exact hE2 | exact hE3 | exact hE4); try first | rfl | (simp (disch := omega) only [push_cast, simprocAttr, hc, hr, z1, z2, z3, z4, natNe, zI, zG, zJ, zM, Bool.true_and, zO, beq_self_eq_true, zP, Bool.not_true, zW, zC] <;> rfl))
      | ((first | apply jf | apply jg); (iterate 2 (try (simp (disch := omega) only [push_cast, simprocAttr, hc, hr, z1, z2, z3, z4, natNe, zI, zG, zJ, zM, Bool.true_and, zO, beq_self_eq_true, zP, Bool.not_true, zW, zC] <;> rfl))))

    all_goals (show _ = _; rfl)
  | true =>
  have hE4 := hasE _ _ _ e4
  simp only [Bool.true_and]
  obtain ⟨BB, hBB⟩ : ∃ z, restB ses x.legs x.micro [] = z := ⟨_, rfl⟩
  rw [hBB]
  refine OKat.of_body (rs := [4]) Try.func67 rfl (by decide +kernel) rfl (by simp [Try.ntmps67]) ?_
  simp only [Try.ntmps67]
  repeat' first
    | ((first | apply W.mapDelete cx_ok | (apply W.mapLen cx_ok; decide)); (simp (disch := omega) only [push_cast, simprocAttr, hc, hr, z1, z2, z3, z4, natNe, zI, zG, zJ, zM, Bool.true_and, zO, beq_self_eq_true, zP, Bool.not_true, zW, zC, mapDelA, mapLenA] <;> rfl))
    | apply jA | apply jB | apply jC | apply jD | apply jE | apply jF | apply jG | apply jH | apply jI
    | ((first | (apply jK cx_ok; decide) | apply jM cx_ok | (apply jN; rfl; decide) | apply jR | apply jS cx_ok); (simp (disch := omega) only [push_cast, simprocAttr, hc, hr, z1, z2, z3, z4, natNe, zI, zG, zJ, zM, Bool.true_and, zO, beq_self_eq_true, zP, Bool.not_true, zW, zC] <;> rfl); all_goals try ((with_reducible intro hI); try first | (cases hI; done) | (simp only [INTS, zL] at hI; try first | (exfalso; omega) | (have hT : True := hI; clear hT hI))))
    | (refine W.makeMap cx_ok (by simp only [push_cast, simprocAttr] <;> rfl) (by decide) ?_)
    | ((apply jV cx_ok; decide); (iterate 2 (simp (disch := omega) only [push_cast, simprocAttr, hc, hr, z1, z2, z3, z4, natNe, zI, zG, zJ, zM, Bool.true_and, zO, beq_self_eq_true, zP, Bool.not_true, zW, zC] <;> rfl)); (with_reducible first | exact c33 | exact c68 | exact c105 | exact hE1 | exact hE2 | exact hE3 | exact hE4); try first | rfl | (simp (disch := omega) only [push_cast, simprocAttr, hc, hr, z1, z2, z3, z4, natNe, zI, zG, zJ, zM, Bool.true_and, zO, beq_self_eq_true, zP, Bool.not_true, zW, zC] <;> rfl))
    | ((first | apply jf | apply jg); (iterate 2 (try (simp (disch := omega) only [push_cast, simprocAttr, hc, hr, z1, z2, z3, z4, natNe, zI, zG, zJ, zM, Bool.true_and, zO, beq_self_eq_true, zP, Bool.not_true, zW, zC] <;> rfl))))

  refine AW.loop (fun n s => ∃ (k : Nat) (P : Int) (M : ZM) (rest : List Leg), n = rest.length ∧ (x.legs.drop k = rest) ∧ (restB ses rest P M = BB) ∧ (∀ q, 0 ≤ getZ q M ∧ getZ q M ≤ 36000 * (k : Int)) ∧ (0 ≤ P ∧ P ≤ 43200000000 + 39600000000 * (k : Int)) ∧ (k ≤ x.legs.length) ∧ 3 ≤ s.nx ∧ s.tm 2 = .ptr 0 0 0 1 ∧ s.tm 3 = .ptr 1 0 0 1 ∧ s.tm 8 = ai P ∧ s.tm 9 = .map 2 ∧ s.tm 64 = lLeg x.legs ∧ s.tm 65 = ai x.legs.length ∧ s.tm 66 = ai k ∧ Pg.rowAt s.H (0) = some ({ k := 12, es := [eSession ses], ty := 26 }) ∧ Pg.rowAt s.H (1) = some ({ k := 3, es := [eRun x], ty := 100 }) ∧ s.H (2) = some (.mp (.map .int) 0 (enZ M))) (x.legs.length) ⟨0, x.micro, [], x.legs, rfl, rfl, hBB, (fun q => ⟨Int.le_refl _, by simp [getZ]⟩), ⟨z1, (by omega)⟩, (Nat.zero_le _), ?_, ?_, ?_, ?_, ?_, ?_, ?_, ?_, ?_, ?_, ?_⟩ ?_
  iterate 11 (first | (simp (disch := omega) only [push_cast, simprocAttr, natNe, zI, zG, zJ, zM, Bool.true_and, zO, beq_self_eq_true, zP, Bool.not_true, zW, zC, enZ_nil] <;> first | rfl | omega) | omega)
  rintro n0 s0 ⟨k0, P0, M0, rest0, hn0, hp00, hp10, hp20, hp30, hp40, hnl0, hS0⟩
  have hZ0 : (0 : Nat) ≠ s0.nx ∧ s0.nx ≠ (0 : Nat) ∧ (1 : Nat) ≠ s0.nx ∧ s0.nx ≠ (1 : Nat) ∧ (2 : Nat) ≠ s0.nx ∧ s0.nx ≠ (2 : Nat) := by omega
  have hfi := fun q => find_en q M0
  have hpu := fun q v => put_en q v M0
  rcases rest0 with _ | ⟨y, rest0⟩
  rotate_left
  · obtain ⟨hk, hg, hd', hl', hm, hx9⟩ := drop_cons hp00 eLeg []
    have hkl := len_le hp00
    obtain ⟨q1, q2, q3, q4, q5, q6⟩ := leg_bd (hx.legs y hm)
    have hk40 : (k0 : Int) ≤ 40 := by omega
    rw [restB_cons] at hp10
    by_cases hy0 : y.rate = 0
    · have hyT : (y.rate = 0) = True := eq_true hy0
      rw [if_pos hy0] at hp10
      have hgz := hp20 (P0 / 1000000)
      have hfq := hfi (P0 / 1000000)
      have hpq := hpu (P0 / 1000000) (getZ (P0 / 1000000) M0 + y.secs)
      obtain ⟨V, hV⟩ : ∃ z, getZ (P0 / 1000000) M0 = z := ⟨_, rfl⟩
      have hget := fun q => get_put q (P0 / 1000000) (V + y.secs) M0
      rw [hV] at hgz hfq hpq hp10
      obtain ⟨M2, hM2⟩ : ∃ z, putZ (P0 / 1000000) (V + y.secs) M0 = z := ⟨_, rfl⟩
      rw [hM2] at hpq hp10 hget
      have hb2 : ∀ q, 0 ≤ getZ q M2 ∧ getZ q M2 ≤ 36000 * ((k0 + 1 : Nat) : Int) := fun q => by
        have := hp20 q
        rw [hget]
        split <;> omega
      clear hget hfi hpu
      repeat' first
        | ((first | apply W.mapDelete cx_ok | (apply W.mapLen cx_ok; decide)); (simp (disch := omega) only [push_cast, simprocAttr, hS0, hZ0, hk, hg, hx9, q5, q6, hyT, hfq, hpq, natNe, zI, zG, zJ, zM, Bool.true_and, zO, beq_self_eq_true, zP, Bool.not_true, zW, zC, mapDelA, mapLenA] <;> rfl))
        | apply jA | apply jB | apply jC | apply jD | apply jE | apply jF | apply jG | apply jH | apply jI
        | ((first | (apply jK cx_ok; decide) | apply jM cx_ok | (apply jN; rfl; decide) | apply jR | apply jS cx_ok); (simp (disch := omega) only [push_cast, simprocAttr, hS0, hZ0, hk, hg, hx9, q5, q6, hyT, hfq, hpq, natNe, zI, zG, zJ, zM, Bool.true_and, zO, beq_self_eq_true, zP, Bool.not_true, zW, zC] <;> rfl); all_goals try ((with_reducible intro hI); try first | (cases hI; done) | (simp only [INTS, zL] at hI; try first | (exfalso; omega) | (have hT : True := hI; clear hT hI))))
        | (refine W.makeMap cx_ok (by simp only [push_cast, simprocAttr] <;> rfl) (by decide) ?_)
        | ((first | apply jf | apply jg); (iterate 2 (try (simp (disch := omega) only [push_cast, simprocAttr, hS0, hZ0, hk, hg, hx9, q5, q6, hyT, hfq, hpq, natNe, zI, zG, zJ, zM, Bool.true_and, zO, beq_self_eq_true, zP, Bool.not_true, zW, zC] <;> rfl))))

      all_goals (refine ⟨rest0.length, ?_, k0 + 1, P0 + y.secs * y.rate, M2, rest0, rfl, hd', hp10, hb2, (by omega), (by omega), ?_, ?_, ?_, ?_, ?_, ?_, ?_, ?_, ?_, ?_, ?_⟩; ((simp only [zD] at *; omega)); all_goals first | (simp (disch := omega) only [push_cast, simprocAttr, hS0, hZ0, hk, hg, hx9, hyT, hfq, hpq, natNe, zI, zG, zJ, zM, Bool.true_and, zO, beq_self_eq_true, zP, Bool.not_true, zW, zC] <;> first | rfl | omega) | omega)
    · have hyF : (y.rate = 0) = False := eq_false hy0
      rw [if_neg hy0] at hp10
      cases hh : hasB ses.rate y.rate with
      | true =>
        have c106 := hasE _ _ _ hh
        rw [hh, if_pos rfl] at hp10
        repeat' first
          | ((first | apply W.mapDelete cx_ok | (apply W.mapLen cx_ok; decide)); (simp (disch := omega) only [push_cast, simprocAttr, hS0, hZ0, hk, hg, hx9, q5, q6, hyF, natNe, zI, zG, zJ, zM, Bool.true_and, zO, beq_self_eq_true, zP, Bool.not_true, zW, zC, mapDelA, mapLenA] <;> rfl))
          | apply jA | apply jB | apply jC | apply jD | apply jE | apply jF | apply jG | apply jH | apply jI
          | ((first | (apply jK cx_ok; decide) | apply jM cx_ok | (apply jN; rfl; decide) | apply jR | apply jS cx_ok); (simp (disch := omega) only [push_cast, simprocAttr, hS0, hZ0, hk, hg, hx9, q5, q6, hyF, natNe, zI, zG, zJ, zM, Bool.true_and, zO, beq_self_eq_true, zP, Bool.not_true, zW, zC] <;> rfl); all_goals try ((with_reducible intro hI); try first | (cases hI; done) | (simp only [INTS, zL] at hI; try first | (exfalso; omega) | (have hT : True := hI; clear hT hI))))
          | (refine W.makeMap cx_ok (by simp only [push_cast, simprocAttr] <;> rfl) (by decide) ?_)
          | ((apply jV cx_ok; decide); (iterate 2 (simp (disch := omega) only [push_cast, simprocAttr, hS0, hZ0, hk, hg, hx9, q5, q6, hyF, natNe, zI, zG, zJ, zM, Bool.true_and, zO, beq_self_eq_true, zP, Bool.not_true, zW, zC] <;> rfl)); (with_reducible first | exact c106); try first | rfl | (simp (disch := omega) only [push_cast, simprocAttr, hS0, hZ0, hk, hg, hx9, q5, q6, hyF, natNe, zI, zG, zJ, zM, Bool.true_and, zO, beq_self_eq_true, zP, Bool.not_true, zW, zC] <;> rfl))
          | ((first | apply jf | apply jg); (iterate 2 (try (simp (disch := omega) only [push_cast, simprocAttr, hS0, hZ0, hk, hg, hx9, q5, q6, hyF, natNe, zI, zG, zJ, zM, Bool.true_and, zO, beq_self_eq_true, zP, Bool.not_true, zW, zC] <;> rfl))))

        all_goals (refine ⟨rest0.length, ?_, k0 + 1, P0 + y.secs * y.rate, M0, rest0, rfl, hd', hp10, (fun q => by have := hp20 q; omega), (by omega), (by omega), ?_, ?_, ?_, ?_, ?_, ?_, ?_, ?_, ?_, ?_, ?_⟩; ((simp only [zD] at *; omega)); all_goals first | (simp (disch := omega) only [push_cast, simprocAttr, hS0, hZ0, hk, hg, hx9, hyF, natNe, zI, zG, zJ, zM, Bool.true_and, zO, beq_self_eq_true, zP, Bool.not_true, zW, zC] <;> first | rfl | omega) | omega)
      | false =>
        have c106 := hasE _ _ _ hh
        rw [hh, if_neg (by decide)] at hp10
        subst hp10
        repeat' first
          | ((first | apply W.mapDelete cx_ok | (apply W.mapLen cx_ok; decide)); (simp (disch := omega) only [push_cast, simprocAttr, hS0, hZ0, hk, hg, hx9, q5, q6, hyF, natNe, zI, zG, zJ, zM, Bool.true_and, zO, beq_self_eq_true, zP, Bool.not_true, zW, zC, mapDelA, mapLenA] <;> rfl))
          | apply jA | apply jB | apply jC | apply jD | apply jE | apply jF | apply jG | apply jH | apply jI
          | ((first | (apply jK cx_ok; decide) | apply jM cx_ok | (apply jN; rfl; decide) | apply jR | apply jS cx_ok); (simp (disch := omega) only [push_cast, simprocAttr, hS0, hZ0, hk, hg, hx9, q5, q6, hyF, natNe, zI, zG, zJ, zM, Bool.true_and, zO, beq_self_eq_true, zP, Bool.not_true, zW, zC] <;> rfl); all_goals try ((with_reducible intro hI); try first | (cases hI; done) | (simp only [INTS, zL] at hI; try first | (exfalso; omega) | (have hT : True := hI; clear hT hI))))
          | (refine W.makeMap cx_ok (by simp only [push_cast, simprocAttr] <;> rfl) (by decide) ?_)
          | ((apply jV cx_ok; decide); (iterate 2 (simp (disch := omega) only [push_cast, simprocAttr, hS0, hZ0, hk, hg, hx9, q5, q6, hyF, natNe, zI, zG, zJ, zM, Bool.true_and, zO, beq_self_eq_true, zP, Bool.not_true, zW, zC] <;> rfl)); (with_reducible first | exact c106); try first | rfl | (simp (disch := omega) only [push_cast, simprocAttr, hS0, hZ0, hk, hg, hx9, q5, q6, hyF, natNe, zI, zG, zJ, zM, Bool.true_and, zO, beq_self_eq_true, zP, Bool.not_true, zW, zC] <;> rfl))
          | ((first | apply jf | apply jg); (iterate 2 (try (simp (disch := omega) only [push_cast, simprocAttr, hS0, hZ0, hk, hg, hx9, q5, q6, hyF, natNe, zI, zG, zJ, zM, Bool.true_and, zO, beq_self_eq_true, zP, Bool.not_true, zW, zC] <;> rfl))))

        all_goals (show _ = _; rfl)
  have hk := drop_nil hp00
  rw [restB_nil] at hp10
  repeat' first
    | ((first | apply W.mapDelete cx_ok | (apply W.mapLen cx_ok; decide)); (simp (disch := omega) only [push_cast, simprocAttr, hS0, hZ0, hk, natNe, zI, zG, zJ, zM, Bool.true_and, zO, beq_self_eq_true, zP, Bool.not_true, zW, zC, mapDelA, mapLenA] <;> rfl))
    | apply jA | apply jB | apply jC | apply jD | apply jE | apply jF | apply jG | apply jH | apply jI
    | ((first | (apply jK cx_ok; decide) | apply jM cx_ok | (apply jN; rfl; decide) | apply jR | apply jS cx_ok); (simp (disch := omega) only [push_cast, simprocAttr, hS0, hZ0, hk, natNe, zI, zG, zJ, zM, Bool.true_and, zO, beq_self_eq_true, zP, Bool.not_true, zW, zC] <;> rfl); all_goals try ((with_reducible intro hI); try first | (cases hI; done) | (simp only [INTS, zL] at hI; try first | (exfalso; omega) | (have hT : True := hI; clear hT hI))))
    | (refine W.makeMap cx_ok (by simp only [push_cast, simprocAttr] <;> rfl) (by decide) ?_)
    | ((first | apply jf | apply jg); (iterate 2 (try (simp (disch := omega) only [push_cast, simprocAttr, hS0, hZ0, hk, natNe, zI, zG, zJ, zM, Bool.true_and, zO, beq_self_eq_true, zP, Bool.not_true, zW, zC] <;> rfl))))

  refine AW.loop (fun n s => ∃ (k : Nat) (M : ZM) (rest : List Stop), n = rest.length ∧ (ses.stops.drop k = rest) ∧ (tailB rest M = BB) ∧ (k ≤ ses.stops.length) ∧ 3 ≤ s.nx ∧ s.tm 2 = .ptr 0 0 0 1 ∧ s.tm 3 = .ptr 1 0 0 1 ∧ s.tm 9 = .map 2 ∧ s.tm 95 = lStop ses.stops ∧ s.tm 96 = ai ses.stops.length ∧ s.tm 97 = ai k ∧ Pg.rowAt s.H (0) = some ({ k := 12, es := [eSession ses], ty := 26 }) ∧ Pg.rowAt s.H (1) = some ({ k := 3, es := [eRun x], ty := 100 }) ∧ s.H (2) = some (.mp (.map .int) 0 (enZ M))) (ses.stops.length) ⟨0, M0, ses.stops, rfl, rfl, hp10, (Nat.zero_le _), ?_, ?_, ?_, ?_, ?_, ?_, ?_, ?_, ?_, ?_⟩ ?_
  iterate 10 (first | (simp (disch := omega) only [push_cast, simprocAttr, natNe, zI, zG, zJ, zM, Bool.true_and, zO, beq_self_eq_true, zP, Bool.not_true, zW, zC, hS0, hZ0, hk] <;> first | rfl | omega) | omega)
  rintro n2 s2 ⟨k2, M2, rest2, hn2, hp02, hp12, hnl2, hS2⟩
  have hZ2 : (0 : Nat) ≠ s2.nx ∧ s2.nx ≠ (0 : Nat) ∧ (1 : Nat) ≠ s2.nx ∧ s2.nx ≠ (1 : Nat) ∧ (2 : Nat) ≠ s2.nx ∧ s2.nx ≠ (2 : Nat) := by omega
  rcases rest2 with _ | ⟨y, rest2⟩
  rotate_left
  · obtain ⟨hk, hg, hd', hl', hm, hx9⟩ := drop_cons hp02 eStop []
    have hkl := len_le hp02
    have hfq := find_en y.pos M2
    have hpq := del_en y.pos M2
    rw [tailB_cons] at hp12
    cases hh : hasB y.secs (getZ y.pos M2) with
    | true =>
      have c106 := hasE _ _ _ hh
      rw [hh, if_pos rfl] at hp12
      repeat' first
        | ((first | apply W.mapDelete cx_ok | (apply W.mapLen cx_ok; decide)); (simp (disch := omega) only [push_cast, simprocAttr, hS2, hZ2, hk, hg, hx9, hfq, hpq, natNe, zI, zG, zJ, zM, Bool.true_and, zO, beq_self_eq_true, zP, Bool.not_true, zW, zC, mapDelA, mapLenA] <;> rfl))
        | apply jA | apply jB | apply jC | apply jD | apply jE | apply jF | apply jG | apply jH | apply jI
        | ((first | (apply jK cx_ok; decide) | apply jM cx_ok | (apply jN; rfl; decide) | apply jR | apply jS cx_ok); (simp (disch := omega) only [push_cast, simprocAttr, hS2, hZ2, hk, hg, hx9, hfq, hpq, natNe, zI, zG, zJ, zM, Bool.true_and, zO, beq_self_eq_true, zP, Bool.not_true, zW, zC] <;> rfl); all_goals try ((with_reducible intro hI); try first | (cases hI; done) | (simp only [INTS, zL] at hI; try first | (exfalso; omega) | (have hT : True := hI; clear hT hI))))
        | (refine W.makeMap cx_ok (by simp only [push_cast, simprocAttr] <;> rfl) (by decide) ?_)
        | ((apply jV cx_ok; decide); (iterate 2 (simp (disch := omega) only [push_cast, simprocAttr, hS2, hZ2, hk, hg, hx9, hfq, hpq, natNe, zI, zG, zJ, zM, Bool.true_and, zO, beq_self_eq_true, zP, Bool.not_true, zW, zC] <;> rfl)); (with_reducible first | exact c106); try first | rfl | (simp (disch := omega) only [push_cast, simprocAttr, hS2, hZ2, hk, hg, hx9, hfq, hpq, natNe, zI, zG, zJ, zM, Bool.true_and, zO, beq_self_eq_true, zP, Bool.not_true, zW, zC] <;> rfl))
        | ((first | apply jf | apply jg); (iterate 2 (try (simp (disch := omega) only [push_cast, simprocAttr, hS2, hZ2, hk, hg, hx9, hfq, hpq, natNe, zI, zG, zJ, zM, Bool.true_and, zO, beq_self_eq_true, zP, Bool.not_true, zW, zC] <;> rfl))))

      all_goals (refine ⟨rest2.length, ?_, k2 + 1, delZ y.pos M2, rest2, rfl, hd', hp12, (by omega), ?_, ?_, ?_, ?_, ?_, ?_, ?_, ?_, ?_, ?_⟩; ((simp only [zD] at *; omega)); all_goals first | (simp (disch := omega) only [push_cast, simprocAttr, hS2, hZ2, hk, hg, hx9, hfq, hpq, mapDelA, natNe, zI, zG, zJ, zM, Bool.true_and, zO, beq_self_eq_true, zP, Bool.not_true, zW, zC] <;> first | rfl | omega) | omega)
    | false =>
      have c106 := hasE _ _ _ hh
      rw [hh, if_neg (by decide)] at hp12
      subst hp12
      repeat' first
        | ((first | apply W.mapDelete cx_ok | (apply W.mapLen cx_ok; decide)); (simp (disch := omega) only [push_cast, simprocAttr, hS2, hZ2, hk, hg, hx9, hfq, hpq, natNe, zI, zG, zJ, zM, Bool.true_and, zO, beq_self_eq_true, zP, Bool.not_true, zW, zC, mapDelA, mapLenA] <;> rfl))
        | apply jA | apply jB | apply jC | apply jD | apply jE | apply jF | apply jG | apply jH | apply jI
        | ((first | (apply jK cx_ok; decide) | apply jM cx_ok | (apply jN; rfl; decide) | apply jR | apply jS cx_ok); (simp (disch := omega) only [push_cast, simprocAttr, hS2, hZ2, hk, hg, hx9, hfq, hpq, natNe, zI, zG, zJ, zM, Bool.true_and, zO, beq_self_eq_true, zP, Bool.not_true, zW, zC] <;> rfl); all_goals try ((with_reducible intro hI); try first | (cases hI; done) | (simp only [INTS, zL] at hI; try first | (exfalso; omega) | (have hT : True := hI; clear hT hI))))
        | (refine W.makeMap cx_ok (by simp only [push_cast, simprocAttr] <;> rfl) (by decide) ?_)
        | ((apply jV cx_ok; decide); (iterate 2 (simp (disch := omega) only [push_cast, simprocAttr, hS2, hZ2, hk, hg, hx9, hfq, hpq, natNe, zI, zG, zJ, zM, Bool.true_and, zO, beq_self_eq_true, zP, Bool.not_true, zW, zC] <;> rfl)); (with_reducible first | exact c106); try first | rfl | (simp (disch := omega) only [push_cast, simprocAttr, hS2, hZ2, hk, hg, hx9, hfq, hpq, natNe, zI, zG, zJ, zM, Bool.true_and, zO, beq_self_eq_true, zP, Bool.not_true, zW, zC] <;> rfl))
        | ((first | apply jf | apply jg); (iterate 2 (try (simp (disch := omega) only [push_cast, simprocAttr, hS2, hZ2, hk, hg, hx9, hfq, hpq, natNe, zI, zG, zJ, zM, Bool.true_and, zO, beq_self_eq_true, zP, Bool.not_true, zW, zC] <;> rfl))))

      all_goals (show _ = _; rfl)
  have hk2 := drop_nil hp02
  rw [tailB_nil] at hp12
  by_cases hM : M2.length = 0
  · have hMT : ((M2.length : Int)) = 0 := by omega
    have hML : ¬ (0 : Int) < (M2.length : Int) := by omega
    rw [decide_eq_true hM] at hp12
    subst hp12
    rw [if_pos rfl]
    repeat' first
      | ((first | apply W.mapDelete cx_ok | (apply W.mapLen cx_ok; decide)); (simp (disch := omega) only [push_cast, simprocAttr, hS2, hZ2, hk2, enZ_len, hML, natNe, zI, zG, zJ, zM, Bool.true_and, zO, beq_self_eq_true, zP, Bool.not_true, zW, zC, mapDelA, mapLenA] <;> rfl))
      | apply jA | apply jB | apply jC | apply jD | apply jE | apply jF | apply jG | apply jH | apply jI
      | ((first | (apply jK cx_ok; decide) | apply jM cx_ok | (apply jN; rfl; decide) | apply jR | apply jS cx_ok); (simp (disch := omega) only [push_cast, simprocAttr, hS2, hZ2, hk2, enZ_len, hML, natNe, zI, zG, zJ, zM, Bool.true_and, zO, beq_self_eq_true, zP, Bool.not_true, zW, zC] <;> rfl); all_goals try ((with_reducible intro hI); try first | (cases hI; done) | (simp only [INTS, zL] at hI; try first | (exfalso; omega) | (have hT : True := hI; clear hT hI))))
      | (refine W.makeMap cx_ok (by simp only [push_cast, simprocAttr] <;> rfl) (by decide) ?_)
      | ((first | apply jf | apply jg); (iterate 2 (try (simp (disch := omega) only [push_cast, simprocAttr, hS2, hZ2, hk2, enZ_len, hML, natNe, zI, zG, zJ, zM, Bool.true_and, zO, beq_self_eq_true, zP, Bool.not_true, zW, zC] <;> rfl))))

    all_goals (show _ = _; rfl)
  · have hML : (0 : Int) < (M2.length : Int) := by omega
    rw [decide_eq_false hM] at hp12
    subst hp12
    rw [if_neg (by decide)]
    repeat' first
      | ((first | apply W.mapDelete cx_ok | (apply W.mapLen cx_ok; decide)); (simp (disch := omega) only [push_cast, simprocAttr, hS2, hZ2, hk2, enZ_len, hML, natNe, zI, zG, zJ, zM, Bool.true_and, zO, beq_self_eq_true, zP, Bool.not_true, zW, zC, mapDelA, mapLenA] <;> rfl))
      | apply jA | apply jB | apply jC | apply jD | apply jE | apply jF | apply jG | apply jH | apply jI
      | ((first | (apply jK cx_ok; decide) | apply jM cx_ok | (apply jN; rfl; decide) | apply jR | apply jS cx_ok); (simp (disch := omega) only [push_cast, simprocAttr, hS2, hZ2, hk2, enZ_len, hML, natNe, zI, zG, zJ, zM, Bool.true_and, zO, beq_self_eq_true, zP, Bool.not_true, zW, zC] <;> rfl); all_goals try ((with_reducible intro hI); try first | (cases hI; done) | (simp only [INTS, zL] at hI; try first | (exfalso; omega) | (have hT : True := hI; clear hT hI))))
      | (refine W.makeMap cx_ok (by simp only [push_cast, simprocAttr] <;> rfl) (by decide) ?_)
      | ((first | apply jf | apply jg); (iterate 2 (try (simp (disch := omega) only [push_cast, simprocAttr, hS2, hZ2, hk2, enZ_len, hML, natNe, zI, zG, zJ, zM, Bool.true_and, zO, beq_self_eq_true, zP, Bool.not_true, zW, zC] <;> rfl))))

    all_goals (show _ = _; rfl)
end Go.Proofs.Ks
