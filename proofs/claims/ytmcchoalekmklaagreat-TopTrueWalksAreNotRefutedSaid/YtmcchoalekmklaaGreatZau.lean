/-
  Contracts of functions, proved by going through their code. No conditions.
-/
import Derived.Test.YtmcchoalekmklaaGreatZak
import Derived.Test.YtmcchoalekmklaaGreatZaq
import Derived.Test.YtmcchoalekmklaaGreatZas
import Derived.Test.YtmcchoalekmklaaGreatZat
set_option linter.unusedVariables false
set_option linter.unusedSimpArgs false
set_option maxHeartbeats 8000000
set_option maxRecDepth 10000
namespace Go.Proofs.Ks
open Go Go.Pg Go.Proofs Go.Proofs.Yt
attribute [local push_cast] Bool.and_self Bool.and_true Bool.false_eq_true Bool.not_true Bool.true_and List.length_nil List.map_nil List.mem_cons List.not_mem_nil Nat.add_assoc TyD.isAgg beq_self_eq_true natNe
theorem hasE (y : Span) (v : Int) (b : Bool) (h : hasB y v = b) : OKv cx 17 [.agg (eSpan y), ai v] (ab b) := by rw [← h]; exact has_ok y v
theorem len_le {α : Type} {l : List α} {k : Nat} {x : α} {r : List α} (h : l.drop k = x :: r) : k + 1 ≤ l.length := by
  have := congrArg List.length h
  rw [List.length_drop, List.length_cons] at this
  omega
def tailB (st : List Stop) (m : ZM) : Bool := match stopsF st m with
  | some m' => decide (m'.length = 0)
  | none => false
def restB (s : Session) (l : List Leg) (p : Int) (m : ZM) : Bool := match legsF s.rate l p m with
  | some m' => tailB s.stops m'
  | none => false
theorem playsM_eq (s : Session) (x : Run) : playsM s x = (endsB s x && restB s x.legs x.micro []) := rfl
theorem restB_nil (s : Session) (p : Int) (m : ZM) : restB s [] p m = tailB s.stops m := rfl
theorem tailB_nil (m : ZM) : tailB [] m = decide (m.length = 0) := rfl
theorem restB_cons (s : Session) (l : Leg) (r : List Leg) (p : Int) (m : ZM) : restB s (l :: r) p m = if l.rate = 0 then restB s r (p + l.secs * l.rate) (putZ (p / 1000000) (getZ (p / 1000000) m + l.secs) m) else if hasB s.rate l.rate = true then restB s r (p + l.secs * l.rate) m else false := by
  unfold restB
  rw [legsF]
  by_cases h0 : l.rate = 0
  · rw [if_pos h0, if_pos h0]
  · rw [if_neg h0, if_neg h0]
    by_cases h1 : hasB s.rate l.rate = true
    · rw [if_pos h1, if_pos h1]
    · rw [if_neg h1, if_neg h1]
theorem tailB_cons (t : Stop) (r : List Stop) (m : ZM) : tailB (t :: r) m = if hasB t.secs (getZ t.pos m) = true then tailB r (delZ t.pos m) else false := by
  unfold tailB
  rw [stopsF]
  by_cases h1 : hasB t.secs (getZ t.pos m) = true
  · rw [if_pos h1, if_pos h1]
  · rw [if_neg h1, if_neg h1]
def playsE (s : Session) (x : Run) : Int := if checkE ⟨s, [], []⟩ = 0 then (if runE x = 0 then (if playsM s x = true then 0 else 8) else runE x) else checkE ⟨s, [], []⟩
theorem Plays_ok (ses : Session) (x : Run) (hlen : x.legs.length ≤ 1099511627776) : OKv cx 4 [.agg (eSession ses), .agg (eRun x)] (ai (playsE ses x)) := by
  unfold playsE
  have c33 : OKv cx 14 [.agg [ai ses.id, ai ses.inn.lo, ai ses.inn.hi, ai ses.out.lo, ai ses.out.hi, ai ses.zero.lo, ai ses.zero.hi, ai ses.fin.lo, ai ses.fin.hi, ai ses.rate.lo, ai ses.rate.hi, lStop ses.stops, .lst [], .lst []]] (ai (checkE ⟨ses, [], []⟩)) := Check_ok ⟨ses, [], []⟩
  have c68 := CheckRun_ok x hlen
  by_cases hc : checkE ⟨ses, [], []⟩ = 0
  rotate_left
  · rw [if_neg hc]
    have hcF : (checkE ⟨ses, [], []⟩ = 0) = False := eq_false hc
    obtain ⟨E, hE⟩ : ∃ z, checkE ⟨ses, [], []⟩ = z := ⟨_, rfl⟩
    rw [hE] at c33 hcF ⊢
    refine OKat.of_body (rs := [4]) Tryz.func4 rfl (by decide +kernel) rfl (by simp [Tryz.ntmps4]) ?_
    simp only [Tryz.ntmps4]
    repeat' first
      | apply jA | apply jB | apply jC | apply jI
      | ((first | (apply jK kO; decide) | apply jR); (simp (disch := omega) only [push_cast, simprocAttr, hcF] <;> rfl); all_goals try ((with_reducible intro hI); try first | (cases hI; done) | (simp only [INTS, zL] at hI; try first | (exfalso; omega) | (have hT : True := hI; clear hT hI))))
      | ((apply jV kO; decide); (iterate 2 (simp (disch := omega) only [push_cast, simprocAttr, hcF] <;> rfl)); (with_reducible exact c33); try first | rfl | (simp (disch := omega) only [push_cast, simprocAttr, hcF] <;> rfl))
      | ((apply W.ret1); (iterate 2 (try (simp (disch := omega) only [push_cast, simprocAttr, hcF] <;> rfl))))

    all_goals (show _ = _; rfl)
  have hv := checkE_V hc
  have hst : ses.stops.length ≤ 4 := hv.nstops
  rw [if_pos hc]
  rw [hc] at c33
  by_cases hr : runE x = 0
  rotate_left
  · rw [if_neg hr]
    have hrF : (runE x = 0) = False := eq_false hr
    obtain ⟨E, hE⟩ : ∃ z, runE x = z := ⟨_, rfl⟩
    rw [hE] at c68 hrF ⊢
    refine OKat.of_body (rs := [4]) Tryz.func4 rfl (by decide +kernel) rfl (by simp [Tryz.ntmps4]) ?_
    simp only [Tryz.ntmps4]
    repeat' first
      | apply jA | apply jB | apply jC | apply jE | apply jI
      | ((first | (apply jK kO; decide) | apply jR); (simp (disch := omega) only [push_cast, simprocAttr, hrF] <;> rfl); all_goals try ((with_reducible intro hI); try first | (cases hI; done) | (simp only [INTS, zL] at hI; try first | (exfalso; omega) | (have hT : True := hI; clear hT hI))))
      | ((apply jV kO; decide); (iterate 2 (simp (disch := omega) only [push_cast, simprocAttr, hrF] <;> rfl)); (with_reducible first | exact c33 | exact c68); try first | rfl | (simp (disch := omega) only [push_cast, simprocAttr, hrF] <;> rfl))
      | ((apply W.ret1); (iterate 2 (try (simp (disch := omega) only [push_cast, simprocAttr, hrF] <;> rfl))))

    all_goals (show _ = _; rfl)
  rw [if_pos hr]
  rw [hr] at c68
  have hx := runE_V hr
  have c105 := end_ok x hx
  obtain ⟨z1, z2⟩ := hx.micro
  have z4 := hx.place
  have hn40 := hx.n
  have z3 : 0 ≤ x.micro + sumP x.legs := by
    have key : ∀ l : List Leg, (∀ y ∈ l, legB y = true) → 0 ≤ sumP l := by
      intro l
      induction l with
      | nil => intro _; exact Int.le_refl _
      | cons y l ih =>
        intro h
        have := (leg_bd (h y (by simp))).2.2.2.2.1
        have := ih fun z hz => h z (List.mem_cons_of_mem _ hz)
        simp only [sumP]; omega
    have := key x.legs hx.legs
    omega
  rw [playsM_eq]
  unfold endsB
  obtain ⟨TT, hTT⟩ : ∃ z, x.start + sumT x.legs = z := ⟨_, rfl⟩
  obtain ⟨PP, hPP⟩ : ∃ z, x.micro + sumP x.legs = z := ⟨_, rfl⟩
  rw [hTT, hPP] at c105 ⊢
  rw [hPP] at z3 z4
  cases e1 : hasB ses.inn x.start with
  | false =>
    have hE1 := hasE _ _ _ e1
    simp only [Bool.false_and, Bool.true_and, Bool.false_eq_true, if_false]
    refine OKat.of_body (rs := [4]) Tryz.func4 rfl (by decide +kernel) rfl (by simp [Tryz.ntmps4]) ?_
    simp only [Tryz.ntmps4]
    repeat' first
      | apply jA | apply jB | apply jC | apply jE | apply jI
      | ((first | (apply jK kO; decide) | (apply jN; rfl; decide) | apply jR); (simp (disch := omega) only [push_cast, simprocAttr, hc, hr, z1, z2, z3, z4] <;> rfl); all_goals try ((with_reducible intro hI); try first | (cases hI; done) | (simp only [INTS, zL] at hI; try first | (exfalso; omega) | (have hT : True := hI; clear hT hI))))
      | ((apply jV kO; decide); (iterate 2 (simp (disch := omega) only [push_cast, simprocAttr, hc, hr, z1, z2, z3, z4] <;> rfl)); (with_reducible first | exact c33 | exact c68 | exact c105 | exact hE1); try first | rfl | (simp (disch := omega) only [push_cast, simprocAttr, hc, hr, z1, z2, z3, z4] <;> rfl))
      | ((apply W.ret1); (iterate 2 (try (simp (disch := omega) only [push_cast, simprocAttr, hc, hr, z1, z2, z3, z4] <;> rfl))))

    all_goals (show _ = _; rfl)
  | true =>
  have hE1 := hasE _ _ _ e1
  cases e2 : hasB ses.out TT with
  | false =>
    have hE2 := hasE _ _ _ e2
    simp only [Bool.false_and, Bool.true_and, Bool.false_eq_true, if_false]
    refine OKat.of_body (rs := [4]) Tryz.func4 rfl (by decide +kernel) rfl (by simp [Tryz.ntmps4]) ?_
    simp only [Tryz.ntmps4]
    repeat' first
      | apply jA | apply jB | apply jC | apply jE | apply jI
      | ((first | (apply jK kO; decide) | (apply jN; rfl; decide) | apply jR); (simp (disch := omega) only [push_cast, simprocAttr, hc, hr, z1, z2, z3, z4] <;> rfl); all_goals try ((with_reducible intro hI); try first | (cases hI; done) | (simp only [INTS, zL] at hI; try first | (exfalso; omega) | (have hT : True := hI; clear hT hI))))
      | ((apply jV kO; decide); (iterate 2 (simp (disch := omega) only [push_cast, simprocAttr, hc, hr, z1, z2, z3, z4] <;> rfl)); (with_reducible first | exact c33 | exact c68 | exact c105 | exact hE1 | exact hE2); try first | rfl | (simp (disch := omega) only [push_cast, simprocAttr, hc, hr, z1, z2, z3, z4] <;> rfl))
      | ((apply W.ret1); (iterate 2 (try (simp (disch := omega) only [push_cast, simprocAttr, hc, hr, z1, z2, z3, z4] <;> rfl))))

    all_goals (show _ = _; rfl)
  | true =>
  have hE2 := hasE _ _ _ e2
  cases e3 : hasB ses.zero (x.micro / 1000000) with
  | false =>
    have hE3 := hasE _ _ _ e3
    simp only [Bool.false_and, Bool.true_and, Bool.false_eq_true, if_false]
    refine OKat.of_body (rs := [4]) Tryz.func4 rfl (by decide +kernel) rfl (by simp [Tryz.ntmps4]) ?_
    simp only [Tryz.ntmps4]
    repeat' first
      | apply jA | apply jB | apply jC | apply jE | apply jI
      | ((first | (apply jK kO; decide) | (apply jN; rfl; decide) | apply jR); (simp (disch := omega) only [push_cast, simprocAttr, hc, hr, z1, z2, z3, z4] <;> rfl); all_goals try ((with_reducible intro hI); try first | (cases hI; done) | (simp only [INTS, zL] at hI; try first | (exfalso; omega) | (have hT : True := hI; clear hT hI))))
      | ((apply jV kO; decide); (iterate 2 (simp (disch := omega) only [push_cast, simprocAttr, hc, hr, z1, z2, z3, z4] <;> rfl)); (with_reducible first | exact c33 | exact c68 | exact c105 | exact hE1 | exact hE2 | exact hE3); try first | rfl | (simp (disch := omega) only [push_cast, simprocAttr, hc, hr, z1, z2, z3, z4] <;> rfl))
      | ((apply W.ret1); (iterate 2 (try (simp (disch := omega) only [push_cast, simprocAttr, hc, hr, z1, z2, z3, z4] <;> rfl))))

    all_goals (show _ = _; rfl)
  | true =>
  have hE3 := hasE _ _ _ e3
  cases e4 : hasB ses.fin (PP / 1000000) with
  | false =>
    have hE4 := hasE _ _ _ e4
    simp only [Bool.false_and, Bool.true_and, Bool.false_eq_true, if_false]
    refine OKat.of_body (rs := [4]) Tryz.func4 rfl (by decide +kernel) rfl (by simp [Tryz.ntmps4]) ?_
    simp only [Tryz.ntmps4]
    repeat' first
      | apply jA | apply jB | apply jC | apply jE | apply jI
      | ((first | (apply jK kO; decide) | (apply jN; rfl; decide) | apply jR); (simp (disch := omega) only [push_cast, simprocAttr, hc, hr, z1, z2, z3, z4] <;> rfl); all_goals try ((with_reducible intro hI); try first | (cases hI; done) | (simp only [INTS, zL] at hI; try first | (exfalso; omega) | (have hT : True := hI; clear hT hI))))
      | ((apply jV kO; decide); (iterate 2 (simp (disch := omega) only [push_cast, simprocAttr, hc, hr, z1, z2, z3, z4] <;> rfl)); (with_reducible first | exact c33 | exact c68 | exact c105 | exact hE1 | exact hE2 | exact hE3 | exact hE4); try first | rfl | (simp (disch := omega) only [push_cast, simprocAttr, hc, hr, z1, z2, z3, z4] <;> rfl))
      | ((apply W.ret1); (iterate 2 (try (simp (disch := omega) only [push_cast, simprocAttr, hc, hr, z1, z2, z3, z4] <;> rfl))))

    all_goals (show _ = _; rfl)
  | true =>
  have hE4 := hasE _ _ _ e4
  simp only [Bool.true_and]
  obtain ⟨BB, hBB⟩ : ∃ z, restB ses x.legs x.micro [] = z := ⟨_, rfl⟩
  rw [hBB]
  refine OKat.of_body (rs := [4]) Tryz.func4 rfl (by decide +kernel) rfl (by simp [Tryz.ntmps4]) ?_
  simp only [Tryz.ntmps4]
  repeat' first
    | apply jA | apply jB | apply jD | apply jE | apply jI
    | ((first | (apply jK kO; decide) | (apply jN; rfl; decide) | apply jR); (simp (disch := omega) only [push_cast, simprocAttr, hc, hr, z1, z2, z3, z4] <;> rfl); all_goals try ((with_reducible intro hI); try first | (cases hI; done) | (simp only [INTS, zL] at hI; try first | (exfalso; omega) | (have hT : True := hI; clear hT hI))))
    | (refine W.makeMap kO (by simp only [push_cast, simprocAttr] <;> rfl) (by decide) ?_)
    | ((apply jV kO; decide); (iterate 2 (simp (disch := omega) only [push_cast, simprocAttr, hc, hr, z1, z2, z3, z4] <;> rfl)); (with_reducible first | exact c33 | exact c68 | exact c105 | exact hE1 | exact hE2 | exact hE3 | exact hE4); try first | rfl | (simp (disch := omega) only [push_cast, simprocAttr, hc, hr, z1, z2, z3, z4] <;> rfl))

  refine AW.loop (fun n s => ∃ (k : Nat) (P : Int) (M : ZM) (rest : List Leg), n = rest.length ∧ (x.legs.drop k = rest) ∧ (restB ses rest P M = BB) ∧ (∀ q, 0 ≤ getZ q M ∧ getZ q M ≤ 36000 * (k : Int)) ∧ (0 ≤ P ∧ P ≤ 43200000000 + 39600000000 * (k : Int)) ∧ (k ≤ x.legs.length) ∧ 3 ≤ s.nx ∧ s.tm 2 = .ptr 0 0 0 1 ∧ s.tm 3 = .ptr 1 0 0 1 ∧ s.tm 8 = ai P ∧ s.tm 9 = .map 2 ∧ s.tm 64 = lLeg x.legs ∧ s.tm 65 = ai x.legs.length ∧ s.tm 66 = ai k ∧ Pg.rowAt s.H (0) = some ({ k := 12, es := [eSession ses], ty := 32 }) ∧ Pg.rowAt s.H (1) = some ({ k := 3, es := [eRun x], ty := 35 }) ∧ s.H (2) = some (.mp (.map .int) 0 (enZ M))) (x.legs.length) ⟨0, x.micro, [], x.legs, rfl, rfl, hBB, (fun q => ⟨Int.le_refl _, by simp [getZ]⟩), ⟨z1, (by omega)⟩, (Nat.zero_le _), ?_, ?_, ?_, ?_, ?_, ?_, ?_, ?_, ?_, ?_, ?_⟩ ?_
  iterate 11 (first | (simp (disch := omega) only [push_cast, simprocAttr, enZ_nil] <;> first | rfl | omega) | omega)
  rintro n0 s0 ⟨k0, P0, M0, rest0, hn0, hp00, hp10, hp20, hp30, hp40, hnl0, hS0⟩
  have hZ0 : (0 : Nat) ≠ s0.nx ∧ s0.nx ≠ (0 : Nat) ∧ (1 : Nat) ≠ s0.nx ∧ s0.nx ≠ (1 : Nat) ∧ (2 : Nat) ≠ s0.nx ∧ s0.nx ≠ (2 : Nat) := by omega
  have hfi := fun q => find_en q M0
  have hpu := fun q v => put_en q v M0
  rcases rest0 with _ | ⟨y, rest0⟩
  rotate_left
  · obtain ⟨hk, hg, hd', hl', hm, hx9⟩ := drop_cons hp00 eLeg []
    have hkl := len_le hp00
    obtain ⟨q1, q2, q3, q4, q5, q6⟩ := leg_bd (hx.legs y hm)
    have hk40 : (k0 : Int) ≤ 40 := by omega
    rw [restB_cons] at hp10
    by_cases hy0 : y.rate = 0
    · have hyT : (y.rate = 0) = True := eq_true hy0
      rw [if_pos hy0] at hp10
      have hgz := hp20 (P0 / 1000000)
      have hfq := hfi (P0 / 1000000)
      have hpq := hpu (P0 / 1000000) (getZ (P0 / 1000000) M0 + y.secs)
      obtain ⟨V, hV⟩ : ∃ z, getZ (P0 / 1000000) M0 = z := ⟨_, rfl⟩
      have hget := fun q => get_put q (P0 / 1000000) (V + y.secs) M0
      rw [hV] at hgz hfq hpq hp10
      obtain ⟨M2, hM2⟩ : ∃ z, putZ (P0 / 1000000) (V + y.secs) M0 = z := ⟨_, rfl⟩
      rw [hM2] at hpq hp10 hget
      have hb2 : ∀ q, 0 ≤ getZ q M2 ∧ getZ q M2 ≤ 36000 * ((k0 + 1 : Nat) : Int) := fun q => by
        have := hp20 q
        rw [hget]
        split <;> omega
      clear hget hfi hpu
      repeat' first
        | apply jA | apply jB | apply jD | apply jE | apply jI
        | ((first | (apply jK kO; decide) | apply jM kO | apply jR | apply jS kO); (simp (disch := omega) only [push_cast, simprocAttr, hS0, hZ0, hk, hg, hx9, q5, q6, hyT, hfq, hpq] <;> rfl); all_goals try ((with_reducible intro hI); try first | (cases hI; done) | (simp only [INTS, zL] at hI; try first | (exfalso; omega) | (have hT : True := hI; clear hT hI))))

      all_goals (refine ⟨rest0.length, ?_, k0 + 1, P0 + y.secs * y.rate, M2, rest0, rfl, hd', hp10, hb2, (by omega), (by omega), ?_, ?_, ?_, ?_, ?_, ?_, ?_, ?_, ?_, ?_, ?_⟩; ((simp only [List.length_cons] at *; omega)); all_goals first | (simp (disch := omega) only [push_cast, simprocAttr, hS0, hZ0, hk, hg, hx9, hyT, hfq, hpq] <;> first | rfl | omega) | omega)
    · have hyF : (y.rate = 0) = False := eq_false hy0
      rw [if_neg hy0] at hp10
      cases hh : hasB ses.rate y.rate with
      | true =>
        have c106 := hasE _ _ _ hh
        rw [hh, if_pos rfl] at hp10
        repeat' first
          | apply jA | apply jB | apply jD | apply jE | apply jI
          | ((first | (apply jK kO; decide) | apply jM kO | apply jR); (simp (disch := omega) only [push_cast, simprocAttr, hS0, hZ0, hk, hg, hx9, q5, q6, hyF] <;> rfl); all_goals try ((with_reducible intro hI); try first | (cases hI; done) | (simp only [INTS, zL] at hI; try first | (exfalso; omega) | (have hT : True := hI; clear hT hI))))
          | ((apply jV kO; decide); (iterate 2 (simp (disch := omega) only [push_cast, simprocAttr, hS0, hZ0, hk, hg, hx9, q5, q6, hyF] <;> rfl)); (with_reducible exact c106); try first | rfl | (simp (disch := omega) only [push_cast, simprocAttr, hS0, hZ0, hk, hg, hx9, q5, q6, hyF] <;> rfl))

        all_goals (refine ⟨rest0.length, ?_, k0 + 1, P0 + y.secs * y.rate, M0, rest0, rfl, hd', hp10, (fun q => by have := hp20 q; omega), (by omega), (by omega), ?_, ?_, ?_, ?_, ?_, ?_, ?_, ?_, ?_, ?_, ?_⟩; ((simp only [List.length_cons] at *; omega)); all_goals first | (simp (disch := omega) only [push_cast, simprocAttr, hS0, hZ0, hk, hg, hx9, hyF] <;> first | rfl | omega) | omega)
      | false =>
        have c106 := hasE _ _ _ hh
        rw [hh, if_neg (by decide)] at hp10
        subst hp10
        repeat' first
          | apply jA | apply jB | apply jC | apply jD | apply jE | apply jI
          | ((first | (apply jK kO; decide) | apply jM kO | apply jR); (simp (disch := omega) only [push_cast, simprocAttr, hS0, hZ0, hk, hg, hx9, q5, q6, hyF] <;> rfl); all_goals try ((with_reducible intro hI); try first | (cases hI; done) | (simp only [INTS, zL] at hI; try first | (exfalso; omega) | (have hT : True := hI; clear hT hI))))
          | ((apply jV kO; decide); (iterate 2 (simp (disch := omega) only [push_cast, simprocAttr, hS0, hZ0, hk, hg, hx9, q5, q6, hyF] <;> rfl)); (with_reducible exact c106); try first | rfl | (simp (disch := omega) only [push_cast, simprocAttr, hS0, hZ0, hk, hg, hx9, q5, q6, hyF] <;> rfl))
          | ((apply W.ret1); (iterate 2 (try (simp (disch := omega) only [push_cast, simprocAttr, hS0, hZ0, hk, hg, hx9, q5, q6, hyF] <;> rfl))))

        all_goals (show _ = _; rfl)
  have hk := drop_nil hp00
  rw [restB_nil] at hp10
  repeat' first
    | apply jA | apply jB | apply jD | apply jF | apply jI
    | ((first | (apply jK kO; decide) | apply jR); (simp (disch := omega) only [push_cast, simprocAttr, hS0, hZ0, hk] <;> rfl); all_goals try ((with_reducible intro hI); try first | (cases hI; done) | (simp only [INTS, zL] at hI; try first | (exfalso; omega) | (have hT : True := hI; clear hT hI))))

  refine AW.loop (fun n s => ∃ (k : Nat) (M : ZM) (rest : List Stop), n = rest.length ∧ (ses.stops.drop k = rest) ∧ (tailB rest M = BB) ∧ (k ≤ ses.stops.length) ∧ 3 ≤ s.nx ∧ s.tm 2 = .ptr 0 0 0 1 ∧ s.tm 3 = .ptr 1 0 0 1 ∧ s.tm 9 = .map 2 ∧ s.tm 95 = lStop ses.stops ∧ s.tm 96 = ai ses.stops.length ∧ s.tm 97 = ai k ∧ Pg.rowAt s.H (0) = some ({ k := 12, es := [eSession ses], ty := 32 }) ∧ Pg.rowAt s.H (1) = some ({ k := 3, es := [eRun x], ty := 35 }) ∧ s.H (2) = some (.mp (.map .int) 0 (enZ M))) (ses.stops.length) ⟨0, M0, ses.stops, rfl, rfl, hp10, (Nat.zero_le _), ?_, ?_, ?_, ?_, ?_, ?_, ?_, ?_, ?_, ?_⟩ ?_
  iterate 10 (first | (simp (disch := omega) only [push_cast, simprocAttr, hS0, hZ0, hk] <;> first | rfl | omega) | omega)
  rintro n2 s2 ⟨k2, M2, rest2, hn2, hp02, hp12, hnl2, hS2⟩
  have hZ2 : (0 : Nat) ≠ s2.nx ∧ s2.nx ≠ (0 : Nat) ∧ (1 : Nat) ≠ s2.nx ∧ s2.nx ≠ (1 : Nat) ∧ (2 : Nat) ≠ s2.nx ∧ s2.nx ≠ (2 : Nat) := by omega
  rcases rest2 with _ | ⟨y, rest2⟩
  rotate_left
  · obtain ⟨hk, hg, hd', hl', hm, hx9⟩ := drop_cons hp02 eStop []
    have hkl := len_le hp02
    have hfq := find_en y.pos M2
    have hpq := del_en y.pos M2
    rw [tailB_cons] at hp12
    cases hh : hasB y.secs (getZ y.pos M2) with
    | true =>
      have c106 := hasE _ _ _ hh
      rw [hh, if_pos rfl] at hp12
      repeat' first
        | ((apply W.mapDelete kO); (simp (disch := omega) only [push_cast, simprocAttr, hS2, hZ2, hk, hg, hx9, hfq, hpq, mapDelA, mapLenA] <;> rfl))
        | apply jA | apply jB | apply jD | apply jE | apply jI
        | ((first | (apply jK kO; decide) | apply jM kO | apply jR); (simp (disch := omega) only [push_cast, simprocAttr, hS2, hZ2, hk, hg, hx9, hfq, hpq] <;> rfl); all_goals try ((with_reducible intro hI); try first | (cases hI; done) | (simp only [INTS, zL] at hI; try first | (exfalso; omega) | (have hT : True := hI; clear hT hI))))
        | ((apply jV kO; decide); (iterate 2 (simp (disch := omega) only [push_cast, simprocAttr, hS2, hZ2, hk, hg, hx9, hfq, hpq] <;> rfl)); (with_reducible exact c106); try first | rfl | (simp (disch := omega) only [push_cast, simprocAttr, hS2, hZ2, hk, hg, hx9, hfq, hpq] <;> rfl))

      all_goals (refine ⟨rest2.length, ?_, k2 + 1, delZ y.pos M2, rest2, rfl, hd', hp12, (by omega), ?_, ?_, ?_, ?_, ?_, ?_, ?_, ?_, ?_, ?_⟩; ((simp only [List.length_cons] at *; omega)); all_goals first | (simp (disch := omega) only [push_cast, simprocAttr, hS2, hZ2, hk, hg, hx9, hfq, hpq, mapDelA] <;> first | rfl | omega) | omega)
    | false =>
      have c106 := hasE _ _ _ hh
      rw [hh, if_neg (by decide)] at hp12
      subst hp12
      repeat' first
        | apply jA | apply jB | apply jC | apply jD | apply jE | apply jI
        | ((first | (apply jK kO; decide) | apply jM kO | apply jR); (simp (disch := omega) only [push_cast, simprocAttr, hS2, hZ2, hk, hg, hx9, hfq, hpq] <;> rfl); all_goals try ((with_reducible intro hI); try first | (cases hI; done) | (simp only [INTS, zL] at hI; try first | (exfalso; omega) | (have hT : True := hI; clear hT hI))))
        | ((apply jV kO; decide); (iterate 2 (simp (disch := omega) only [push_cast, simprocAttr, hS2, hZ2, hk, hg, hx9, hfq, hpq] <;> rfl)); (with_reducible exact c106); try first | rfl | (simp (disch := omega) only [push_cast, simprocAttr, hS2, hZ2, hk, hg, hx9, hfq, hpq] <;> rfl))
        | ((apply W.ret1); (iterate 2 (try (simp (disch := omega) only [push_cast, simprocAttr, hS2, hZ2, hk, hg, hx9, hfq, hpq] <;> rfl))))

      all_goals (show _ = _; rfl)
  have hk2 := drop_nil hp02
  rw [tailB_nil] at hp12
  by_cases hM : M2.length = 0
  · have hMT : ((M2.length : Int)) = 0 := by omega
    have hML : ¬ (0 : Int) < (M2.length : Int) := by omega
    rw [decide_eq_true hM] at hp12
    subst hp12
    rw [if_pos rfl]
    repeat' first
      | ((apply W.mapLen kO; decide); (simp (disch := omega) only [push_cast, simprocAttr, hS2, hZ2, hk2, enZ_len, hML, mapDelA, mapLenA] <;> rfl))
      | apply jA | apply jB | apply jC | apply jE | apply jF | apply jI
      | ((first | (apply jK kO; decide) | apply jR); (simp (disch := omega) only [push_cast, simprocAttr, hS2, hZ2, hk2, enZ_len, hML] <;> rfl); all_goals try ((with_reducible intro hI); try first | (cases hI; done) | (simp only [INTS, zL] at hI; try first | (exfalso; omega) | (have hT : True := hI; clear hT hI))))
      | ((apply W.ret1); (iterate 2 (try (simp (disch := omega) only [push_cast, simprocAttr, hS2, hZ2, hk2, enZ_len, hML] <;> rfl))))

    all_goals (show _ = _; rfl)
  · have hML : (0 : Int) < (M2.length : Int) := by omega
    rw [decide_eq_false hM] at hp12
    subst hp12
    rw [if_neg (by decide)]
    repeat' first
      | ((apply W.mapLen kO; decide); (simp (disch := omega) only [push_cast, simprocAttr, hS2, hZ2, hk2, enZ_len, hML, mapDelA, mapLenA] <;> rfl))
      | apply jA | apply jB | apply jC | apply jF | apply jI
      | ((first | (apply jK kO; decide) | apply jR); (simp (disch := omega) only [push_cast, simprocAttr, hS2, hZ2, hk2, enZ_len, hML] <;> rfl); all_goals try ((with_reducible intro hI); try first | (cases hI; done) | (simp only [INTS, zL] at hI; try first | (exfalso; omega) | (have hT : True := hI; clear hT hI))))
      | ((apply W.ret1); (iterate 2 (try (simp (disch := omega) only [push_cast, simprocAttr, hS2, hZ2, hk2, enZ_len, hML] <;> rfl))))

    all_goals (show _ = _; rfl)
end Go.Proofs.Ks

namespace Go.Proofs.Ks
open Go Go.Proofs
def Sat (f : Nat → Int) (L : List Lk) : Prop := ∀ l ∈ L, f l.b ≤ f l.a + l.m
theorem sat_append {f : Nat → Int} {L M : List Lk} : Sat f (L ++ M) ↔ Sat f L ∧ Sat f M := by
  unfold Sat
  constructor
  · intro h; exact ⟨fun l hl => h l (List.mem_append_left _ hl), fun l hl => h l (List.mem_append_right _ hl)⟩
  · rintro ⟨h1, h2⟩ l hl
    rcases List.mem_append.1 hl with hl | hl
    · exact h1 l hl
    · exact h2 l hl
theorem sat_nil {f : Nat → Int} : Sat f [] := fun l hl => by cases hl
theorem sat_cons {f : Nat → Int} {l : Lk} {L : List Lk} : Sat f (l :: L) ↔ f l.b ≤ f l.a + l.m ∧ Sat f L := by
  unfold Sat; simp
theorem sat_both {f : Nat → Int} {k : Nat} {x : Span} : Sat f (bothL k x) ↔ x.lo ≤ f k - f 0 ∧ f k - f 0 ≤ x.hi := by
  unfold bothL
  rw [sat_cons, sat_cons]
  constructor
  · rintro ⟨h1, h2, _⟩; dsimp only at h1 h2; omega
  · rintro ⟨h1, h2⟩; refine ⟨?_, ?_, sat_nil⟩ <;> dsimp only <;> omega
theorem sat_needle {f : Nat → Int} {nd : List Node} {k : Nat} {x : Span} : Sat f (needleL nd k x) ↔ f (atI 4 x.lo 0 nd).toNat ≤ f k ∧ f k ≤ f (atI 4 (x.hi + 1) 0 nd).toNat := by
  unfold needleL
  rw [sat_cons, sat_cons]
  constructor
  · rintro ⟨h1, h2, _⟩; dsimp only at h1 h2; omega
  · rintro ⟨h1, h2⟩; refine ⟨?_, ?_, sat_nil⟩ <;> dsimp only <;> omega
theorem sat_sg {f : Nat → Int} {r : Rec} : ∀ {l : List Sight}, Sat f (sgL r l) ↔ ∀ x ∈ l, x.seen.lo ≤ f (3 + strikeI x.strike 0 r.strikes).toNat - f 0 ∧ f (3 + strikeI x.strike 0 r.strikes).toNat - f 0 ≤ x.seen.hi
  | [] => by simp [sgL, sat_nil]
  | y :: l => by
    rw [sgL, sat_append, sat_both, sat_sg]
    simp
theorem sat_rw {f : Nat → Int} {S : Nat} : ∀ {c i : Nat}, Sat f (rwL S c i) ↔ ∀ j, i ≤ j → j < i + c → f (if 0 < j then 2 + j else 1) ≤ f (if j < S then 3 + j else 2)
  | 0, i => by simp only [rwL]; exact ⟨fun _ j h1 h2 => by omega, fun _ => sat_nil⟩
  | c + 1, i => by
    rw [rwL, sat_cons, sat_rw]
    unfold rowK; dsimp only
    constructor
    · rintro ⟨h1, h2⟩ j hj1 hj2
      by_cases e : j = i
      · subst e; omega
      · exact h2 j (by omega) (by omega)
    · intro h
      refine ⟨?_, fun j hj1 hj2 => h j (by omega) (by omega)⟩
      have := h i (Nat.le_refl _) (by omega)
      omega
theorem sat_nd {f : Nat → Int} {nd : List Node} : ∀ {l : List Strike} {i : Nat}, Sat f (ndL nd i l) ↔ ∀ j x, l[j]? = some x → f (atI 4 x.pos.lo 0 nd).toNat ≤ f (3 + (i + j)) ∧ f (3 + (i + j)) ≤ f (atI 4 (x.pos.hi + 1) 0 nd).toNat
  | [], i => by simp [ndL, sat_nil]
  | y :: l, i => by
    rw [ndL, sat_append, sat_needle, sat_nd]
    constructor
    · rintro ⟨h1, h2⟩ j x hx
      cases j with
      | zero => simp only [List.getElem?_cons_zero, Option.some.injEq] at hx; subst hx; exact h1
      | succ j =>
        simp only [List.getElem?_cons_succ] at hx
        have := h2 j x hx
        rwa [show i + 1 + j = i + (j + 1) by omega] at this
    · intro h
      refine ⟨h 0 y rfl, fun j x hx => ?_⟩
      have := h (j + 1) x (by simpa using hx)
      rwa [show i + (j + 1) = i + 1 + j by omega] at this
theorem sat_pair {f : Nat → Int} {s : Session} {i : Nat} {x : Int} : ∀ {l : List Int} {k : Nat}, Sat f (pairL s i x k l) ↔ ∀ j y, l[j]? = some y → (leastR s x y).1 ≤ f (k + j) - f i ∧ f (k + j) - f i ≤ (leastR s x y).2
  | [], k => by simp [pairL, sat_nil]
  | z :: l, k => by
    rw [pairL, sat_cons, sat_cons, sat_pair]
    dsimp only
    constructor
    · rintro ⟨h1, h2, h3⟩ j y hy
      cases j with
      | zero => simp only [List.getElem?_cons_zero, Option.some.injEq] at hy; subst hy; simp only [Nat.add_zero]; omega
      | succ j =>
        simp only [List.getElem?_cons_succ] at hy
        have := h3 j y hy
        rwa [show k + 1 + j = k + (j + 1) by omega] at this
    · intro h
      have h0 := h 0 z rfl
      simp only [Nat.add_zero] at h0
      refine ⟨by omega, by omega, fun j y hy => ?_⟩
      have := h (j + 1) y (by simpa using hy)
      rwa [show k + (j + 1) = k + 1 + j by omega] at this
theorem sat_pairs {f : Nat → Int} {s : Session} : ∀ {l : List Int} {i : Nat}, Sat f (pairsL s i l) ↔ ∀ j j' x y, j < j' → l[j]? = some x → l[j']? = some y → (leastR s x y).1 ≤ f (i + j') - f (i + j) ∧ f (i + j') - f (i + j) ≤ (leastR s x y).2
  | [], i => by simp [pairsL, sat_nil]
  | z :: l, i => by
    rw [pairsL, sat_append, sat_pair, sat_pairs]
    constructor
    · rintro ⟨h1, h2⟩ j j' x y hj hx hy
      cases j' with
      | zero => omega
      | succ j' =>
        simp only [List.getElem?_cons_succ] at hy
        cases j with
        | zero =>
          simp only [List.getElem?_cons_zero, Option.some.injEq] at hx; subst hx
          have := h1 j' y hy
          rwa [show i + 1 + j' = i + (j' + 1) by omega] at this
        | succ j =>
          simp only [List.getElem?_cons_succ] at hx
          have := h2 j j' x y (by omega) hx hy
          rwa [show i + 1 + j' = i + (j' + 1) by omega, show i + 1 + j = i + (j + 1) by omega] at this
    · intro h
      refine ⟨fun j y hy => ?_, fun j j' x y hj hx hy => ?_⟩
      · have := h 0 (j + 1) z y (by omega) rfl (by simpa using hy)
        rwa [show i + (j + 1) = i + 1 + j by omega] at this
      · have := h (j + 1) (j' + 1) x y (by omega) (by simpa using hx) (by simpa using hy)
        rwa [show i + (j' + 1) = i + 1 + j' by omega, show i + (j + 1) = i + 1 + j by omega] at this
structure Tim (r : Rec) (M : List Int) (o ti te : Int) (ts : Nat → Int) (P : Int → Int) : Prop where
  inn : r.s.inn.lo ≤ ti - o ∧ ti - o ≤ r.s.inn.hi
  out : r.s.out.lo ≤ te - o ∧ te - o ≤ r.s.out.hi
  sights : ∀ x ∈ r.sights, x.seen.lo ≤ ts (strikeI x.strike 0 r.strikes).toNat - o ∧ ts (strikeI x.strike 0 r.strikes).toNat - o ≤ x.seen.hi
  row : ∀ j, j < r.strikes.length + 1 → (if 0 < j then ts (j - 1) else ti) ≤ (if j < r.strikes.length then ts j else te)
  zero : P r.s.zero.lo ≤ ti ∧ ti ≤ P (r.s.zero.hi + 1)
  fin : P r.s.fin.lo ≤ te ∧ te ≤ P (r.s.fin.hi + 1)
  strikes : ∀ j x, r.strikes[j]? = some x → P x.pos.lo ≤ ts j ∧ ts j ≤ P (x.pos.hi + 1)
  pairs : ∀ x ∈ M, ∀ y ∈ M, x < y → (leastR r.s x y).1 ≤ P y - P x ∧ P y - P x ≤ (leastR r.s x y).2
theorem strikeI_nn {r : Rec} (hv : r.V) {x : Sight} (hx : x ∈ r.sights) : 0 ≤ strikeI x.strike 0 r.strikes ∧ strikeI x.strike 0 r.strikes < (r.strikes.length : Int) := by
  obtain ⟨_, _, _, b4⟩ := hv.sights x hx
  rcases strikeI_case x.strike r.strikes 0 with ⟨h, _⟩ | ⟨i, h1, h, _⟩
  · exact absurd b4 h
  · rw [h]; omega
theorem sat_iff {f : Nat → Int} (r : Rec) (more : List Int) : Sat f (linksR r more) ↔
    (r.s.inn.lo ≤ f 1 - f 0 ∧ f 1 - f 0 ≤ r.s.inn.hi) ∧ (r.s.out.lo ≤ f 2 - f 0 ∧ f 2 - f 0 ≤ r.s.out.hi) ∧
    (∀ x ∈ r.sights, x.seen.lo ≤ f (3 + strikeI x.strike 0 r.strikes).toNat - f 0 ∧ f (3 + strikeI x.strike 0 r.strikes).toNat - f 0 ≤ x.seen.hi) ∧
    (∀ j, 0 ≤ j → j < 0 + (r.strikes.length + 1) → f (if 0 < j then 2 + j else 1) ≤ f (if j < r.strikes.length then 3 + j else 2)) ∧
    (f (atI 4 r.s.zero.lo 0 (nodesR r more)).toNat ≤ f 1 ∧ f 1 ≤ f (atI 4 (r.s.zero.hi + 1) 0 (nodesR r more)).toNat) ∧
    (∀ j x, r.strikes[j]? = some x → f (atI 4 x.pos.lo 0 (nodesR r more)).toNat ≤ f (3 + (0 + j)) ∧ f (3 + (0 + j)) ≤ f (atI 4 (x.pos.hi + 1) 0 (nodesR r more)).toNat) ∧
    (f (atI 4 r.s.fin.lo 0 (nodesR r more)).toNat ≤ f 2 ∧ f 2 ≤ f (atI 4 (r.s.fin.hi + 1) 0 (nodesR r more)).toNat) ∧
    (∀ j j' x y, j < j' → (marksR r more)[j]? = some x → (marksR r more)[j']? = some y → (leastR r.s x y).1 ≤ f (3 + r.strikes.length + j') - f (3 + r.strikes.length + j) ∧ f (3 + r.strikes.length + j') - f (3 + r.strikes.length + j) ≤ (leastR r.s x y).2) := by
  unfold linksR
  rw [sat_append, sat_append, sat_append, sat_append, sat_append, sat_append, sat_append, sat_both, sat_both, sat_sg, sat_rw, sat_needle, sat_nd, sat_needle, sat_pairs]
theorem mark_get {r : Rec} {more : List Int} {x : Int} (h : x ∈ marksR r more) : ∃ j, (marksR r more)[j]? = some x ∧ (atI 4 x 0 (nodesR r more)).toNat = 3 + r.strikes.length + j := by
  obtain ⟨j, hj, hx⟩ := List.getElem_of_mem h
  have hg : (marksR r more)[j]? = some x := by rw [List.getElem?_eq_getElem hj, hx]
  have := at_mark_ix (r := r) (more := more) (j := j) (x := x) hj (by rw [List.getD_eq_getElem?_getD, hg]; rfl)
  rw [atP_mark h] at this
  exact ⟨j, hg, by omega⟩
theorem getElem_lt {l : List Int} (hs : l.Pairwise (· < ·)) {j j' : Nat} {x y : Int} (hx : l[j]? = some x) (hy : l[j']? = some y) : j < j' ↔ x < y := by
  obtain ⟨h1, rfl⟩ := List.getElem?_eq_some_iff.1 hx
  obtain ⟨h2, rfl⟩ := List.getElem?_eq_some_iff.1 hy
  rcases Nat.lt_trichotomy j j' with h | h | h
  · exact ⟨fun _ => List.pairwise_iff_getElem.1 hs j j' h1 h2 h, fun _ => h⟩
  · subst h; constructor <;> intro h <;> omega
  · have := List.pairwise_iff_getElem.1 hs j' j h2 h1 h
    constructor <;> intro h <;> omega
theorem tim_of {r : Rec} (hv : r.V) {more : List Int} {f : Nat → Int} (h : Sat f (linksR r more)) :
    Tim r (marksR r more) (f 0) (f 1) (f 2) (fun i => f (3 + i)) (fun p => f (atI 4 p 0 (nodesR r more)).toNat) := by
  obtain ⟨h1, h2, h3, h4, h5, h6, h7, h8⟩ := (sat_iff r more).1 h
  refine ⟨h1, h2, fun x hx => ?_, fun j hj => ?_, h5, h7, fun j x hx => ?_, fun x hx y hy hxy => ?_⟩
  · have := strikeI_nn hv hx
    have h9 := h3 x hx
    rwa [show (3 + strikeI x.strike 0 r.strikes).toNat = 3 + (strikeI x.strike 0 r.strikes).toNat by omega] at h9
  · have := h4 j (Nat.zero_le _) (by omega)
    by_cases hz : 0 < j
    · rw [if_pos hz] at this ⊢
      rw [show 3 + (j - 1) = 2 + j by omega]
      split at this <;> simp [*]
    · rw [if_neg hz] at this ⊢
      split at this <;> simp [*]
  · have := h6 j x hx
    rwa [Nat.zero_add] at this
  · obtain ⟨j, g1, g2⟩ := mark_get hx
    obtain ⟨j', g3, g4⟩ := mark_get hy
    have := h8 j j' x y ((getElem_lt (marksR_sorted r more) g1 g3).2 hxy) g1 g3
    rw [g2, g4]; exact this
def potOf (r : Rec) (M : List Int) (o ti te : Int) (ts : Nat → Int) (P : Int → Int) (k : Nat) : Int :=
  if k = 0 then o else if k = 1 then ti else if k = 2 then te else if k < 3 + r.strikes.length then ts (k - 3) else P (M.getD (k - (3 + r.strikes.length)) 0)
theorem pot_strike {r : Rec} {M : List Int} {o ti te : Int} {ts : Nat → Int} {P : Int → Int} {i : Nat} (h : i < r.strikes.length) : potOf r M o ti te ts P (3 + i) = ts i := by
  unfold potOf
  rw [if_neg (by omega), if_neg (by omega), if_neg (by omega), if_pos (by omega), show 3 + i - 3 = i by omega]
theorem pot_mark {r : Rec} {M : List Int} {o ti te : Int} {ts : Nat → Int} {P : Int → Int} {j : Nat} {x : Int} (h : M[j]? = some x) : potOf r M o ti te ts P (3 + r.strikes.length + j) = P x := by
  unfold potOf
  rw [if_neg (by omega), if_neg (by omega), if_neg (by omega), if_neg (by omega), show 3 + r.strikes.length + j - (3 + r.strikes.length) = j by omega, List.getD_eq_getElem?_getD, h]; rfl
theorem sat_of {r : Rec} (hv : r.V) {more : List Int} {o ti te : Int} {ts : Nat → Int} {P : Int → Int} (h : Tim r (marksR r more) o ti te ts P) : Sat (potOf r (marksR r more) o ti te ts P) (linksR r more) := by
  have hat : ∀ {x : Int}, x ∈ marksR r more → potOf r (marksR r more) o ti te ts P (atI 4 x 0 (nodesR r more)).toNat = P x := fun {x} hx => by
    obtain ⟨j, g1, g2⟩ := mark_get hx
    rw [g2]; exact pot_mark g1
  have hmem := fun {a : Int} => marksR_mem (r := r) (more := more) (a := a)
  have e0 : potOf r (marksR r more) o ti te ts P 0 = o := rfl
  have e1 : potOf r (marksR r more) o ti te ts P 1 = ti := rfl
  have e2 : potOf r (marksR r more) o ti te ts P 2 = te := rfl
  rw [sat_iff]
  rw [e0, e1, e2, hat (hmem.2 (.inl (.inl rfl))), hat (hmem.2 (.inl (.inr (.inl rfl)))), hat (hmem.2 (.inl (.inr (.inr (.inl rfl))))), hat (hmem.2 (.inl (.inr (.inr (.inr rfl)))))]
  refine ⟨h.inn, h.out, fun x hx => ?_, fun j _ hj => ?_, h.zero, fun j x hx => ?_, h.fin, fun j j' x y hj hx hy => ?_⟩
  · have hs := strikeI_nn hv hx
    rw [show (3 + strikeI x.strike 0 r.strikes).toNat = 3 + (strikeI x.strike 0 r.strikes).toNat by omega, pot_strike (by omega)]
    exact h.sights x hx
  · have := h.row j (by omega)
    have a1 : potOf r (marksR r more) o ti te ts P (if 0 < j then 2 + j else 1) = if 0 < j then ts (j - 1) else ti := by
      split
      · rw [show 2 + j = 3 + (j - 1) by omega, pot_strike (by omega)]
      · rfl
    have a2 : potOf r (marksR r more) o ti te ts P (if j < r.strikes.length then 3 + j else 2) = if j < r.strikes.length then ts j else te := by
      split
      · rename_i hjs; rw [pot_strike hjs]
      · rfl
    rw [a1, a2]; exact this
  · have hj := (List.getElem?_eq_some_iff.1 hx).1
    have hxm : x ∈ r.strikes := List.mem_of_getElem? hx
    rw [Nat.zero_add, pot_strike hj, hat (hmem.2 (.inr (.inl ⟨x, hxm, .inl rfl⟩))), hat (hmem.2 (.inr (.inl ⟨x, hxm, .inr rfl⟩)))]
    exact h.strikes j x hx
  · rw [pot_mark hx, pot_mark hy]
    exact h.pairs x (List.mem_of_getElem? hx) y (List.mem_of_getElem? hy) ((getElem_lt (marksR_sorted r more) hx hy).1 hj)
end Go.Proofs.Ks

namespace Go.Proofs.Ks
open Go Go.Proofs
theorem fl_iff {a d q : Int} (hd : 0 < d) : q ≤ a / d ↔ q * d ≤ a := Int.le_ediv_iff_mul_le hd
theorem fl_nn {a d : Int} (ha : 0 ≤ a) (hd : 0 < d) : 0 ≤ a / d := (fl_iff hd).2 (by simpa using ha)
theorem sumS_go (f : Stop → Int) (x y : Int) : ∀ (l : List Stop) (n : Int), sumS f x y l n = n + sumS f x y l 0
  | [], n => by simp [sumS]
  | t :: l, n => by
    unfold sumS
    by_cases hc : x ≤ t.pos ∧ t.pos < y
    · simp only [if_pos hc]; rw [sumS_go f x y l (n + f t), sumS_go f x y l (0 + f t)]; omega
    · simp only [if_neg hc]; exact sumS_go f x y l n
theorem sumS_le {f g : Stop → Int} {x y : Int} : ∀ {l : List Stop}, (∀ t ∈ l, f t ≤ g t) → sumS f x y l 0 ≤ sumS g x y l 0
  | [], _ => Int.le_refl _
  | t :: l, h => by
    have ih := sumS_le (x := x) (y := y) (fun t ht => h t (List.mem_cons_of_mem _ ht))
    have h0 := h t (by simp)
    unfold sumS
    split
    · rw [sumS_go f x y l, sumS_go g x y l]; omega
    · exact ih
theorem leastR_eq (s : Session) (x y : Int) : (leastR s x y).1 = (y - x) * 1000000 / s.rate.hi + sumS (·.secs.lo) x y s.stops 0 ∧ (leastR s x y).2 = ((y - x) * 1000000 + s.rate.lo - 1) / s.rate.lo + sumS (·.secs.hi) x y s.stops 0 := by
  unfold leastR
  rw [addS_sum]
  exact ⟨rfl, rfl⟩
section
variable {s : Session} (hs : s.R) {x p y : Int} (h1 : x ≤ p) (h2 : p ≤ y)
include hs h1 h2
end
end Go.Proofs.Ks

namespace Go.Proofs.Ks
open Go Go.Proofs
theorem pot_of_noNeg {L : List Lk} {n : Nat} {B : Int} (hL : ∀ l ∈ L, l.a < n ∧ l.b < n) (hB0 : 0 ≤ B) (hB : ∀ l ∈ L, -B ≤ l.m ∧ l.m ≤ B) (hfar : B * (n : Int) < far) (hn : NoNeg L) : ∃ f, Sat f L := by
  have hd := lengths_dist hL hB0 hB hfar hn (-1)
  refine ⟨fun k => (lengthsF n L (-1)).1.getD k 0, fun l hl => ?_⟩
  obtain ⟨la, lb⟩ := hL l hl
  have hsrc : ∀ k, k < n → SrcF n (-1) k := fun k hk => ⟨hk, .inl (by decide)⟩
  have h0 : (lengthsF n L (-1)).1.getD l.a 0 ≤ 0 := hd.low l.a [] l.a (hsrc _ la) rfl
  have hf : (0 : Int) < far := by decide
  obtain ⟨s, p, hs, hw, hp⟩ := hd.real l.a la (by omega)
  have := hd.low s (p ++ [l]) l.b hs (hw.snoc hl)
  rw [lenW_append] at this
  have e : lenW [l] = l.m := by simp [lenW]
  rw [e, hp] at this
  exact this
theorem facts_far {n : Nat} (hn : n ≤ 100) : (1073741823 : Int) * (n : Int) < far := by unfold far; omega
theorem cons_sat {r : Rec} (hv : r.V) {more : List Int} (hml : more.length ≤ 8) (hmb : ∀ a ∈ more, 0 ≤ a ∧ a ≤ 43200) : consP r more = true ↔ ∃ f, Sat f (linksR r more) := by
  obtain ⟨h1, h2, h3, h4, h5⟩ := links_facts hv hml hmb
  unfold consP
  rw [decide_eq_true_eq, lengths_noNeg h3 (by decide : (0 : Int) ≤ 1073741823) h4 (facts_far h1)]
  constructor
  · exact pot_of_noNeg h3 (by decide) h4 (facts_far h1)
  · rintro ⟨f, hf⟩; exact NoNeg.of_pot hf
theorem marks_ends (r : Rec) (more : List Int) : r.s.zero.lo ∈ marksR r more ∧ r.s.zero.hi + 1 ∈ marksR r more ∧ r.s.fin.lo ∈ marksR r more ∧ r.s.fin.hi + 1 ∈ marksR r more ∧ ∀ x ∈ r.strikes, x.pos.lo ∈ marksR r more ∧ x.pos.hi + 1 ∈ marksR r more :=
  ⟨marksR_mem.2 (.inl (.inl rfl)), marksR_mem.2 (.inl (.inr (.inl rfl))), marksR_mem.2 (.inl (.inr (.inr (.inl rfl)))), marksR_mem.2 (.inl (.inr (.inr (.inr rfl)))), fun x hx => ⟨marksR_mem.2 (.inr (.inl ⟨x, hx, .inl rfl⟩)), marksR_mem.2 (.inr (.inl ⟨x, hx, .inr rfl⟩))⟩⟩
end Go.Proofs.Ks

namespace Go.Proofs.Ks
open Go Go.Pg Go.Proofs Go.Proofs.Yt
structure Bf (L : List Lk) (n : Nat) (d b : List Int) (t : Nat → Nat) (R k : Nat) : Prop where
  mul : R = 0 ∨ L.length ≤ R
  lend : d.length = n
  lenb : b.length = n
  dle : ∀ v, d.getD v 0 ≤ 0
  never : ∀ v, v < n → t v = 0 ∨ (0 ≤ b.getD v 0 ∧ b.getD v 0 < (L.length : Int))
  now : ∀ v, t v ≤ R + k
  to : ∀ v, v < n → 0 < t v → (lkAt L (b.getD v 0)).b = v
  par : ∀ v, v < n → 0 < t v → d.getD (lkAt L (b.getD v 0)).a 0 + (lkAt L (b.getD v 0)).m < d.getD v 0 ∨ (d.getD (lkAt L (b.getD v 0)).a 0 + (lkAt L (b.getD v 0)).m = d.getD v 0 ∧ t (lkAt L (b.getD v 0)).a < t v)
  late : ∀ v, v < n → 0 < t v → t v < t (lkAt L (b.getD v 0)).a + L.length ∨ t v ≤ L.length
  seen : ∀ q l, L[q]? = some l → q < k → d.getD l.b 0 ≤ d.getD l.a 0 + l.m ∨ R + q + 1 < t l.a
  was : ∀ q l, L[q]? = some l → k ≤ q → L.length ≤ R → d.getD l.b 0 ≤ d.getD l.a 0 + l.m ∨ R + q + 1 < t l.a + L.length
section
variable {L : List Lk} {n : Nat} {d b : List Int} {t : Nat → Nat} {R k : Nat}
end
end Go.Proofs.Ks

namespace Go.Proofs.Ks
open Go Go.Pg Go.Proofs Go.Proofs.Yt
attribute [local push_cast] Bool.and_self Bool.and_true Bool.false_eq_true List.all_append List.all_cons List.all_nil List.isEmpty_cons List.length_append List.length_cons List.length_drop List.length_nil List.length_range List.length_take List.map_append List.map_cons List.map_nil List.take_length List.take_of_length_le and_self and_true dropM isEmpty_map leT pureA pureL takeM true_and
def spansP (r : Rec) : List Span := (List.range r.strikes.length).map fun i => spanF (nodesR r []) (linksR r []) 0 (3 + i)
theorem Spans_err (r : Rec) (e : Int) (he : e ≠ 0) (hs : OKv cx 25 [.agg (eRec r), .lst []] (.tup [.v (.pointer none), ai e])) : OKv cx 9 [.agg (eRec r)] (.tup [.lst [], ai e]) := by
  have heF : (e = 0) = False := eq_false he
  refine OKat.of_body (rs := [2, 3]) Tryz.func9 rfl (by decide +kernel) rfl (by simp [Tryz.ntmps9]) ?_
  simp only [Tryz.ntmps9]
  repeat' first
    | apply jA | apply jB | apply jC | apply jI
    | ((first | (apply jK kO; decide) | apply jR); (simp (disch := omega) only [push_cast, simprocAttr, heF] <;> rfl); all_goals try ((with_reducible intro hI); try first | (cases hI; done) | (simp only [INTS, zL] at hI; try first | (exfalso; omega) | (have hT : True := hI; clear hT hI))))
    | ((apply jV kO; decide); (iterate 2 (simp (disch := omega) only [push_cast, simprocAttr, heF] <;> rfl)); (with_reducible exact hs); try first | rfl | (simp (disch := omega) only [push_cast, simprocAttr, heF] <;> rfl))
    | ((apply W.ret2); (iterate 2 (try (simp (disch := omega) only [push_cast, simprocAttr, heF] <;> rfl))))

  all_goals (show _ = _; rfl)
theorem Spans_good (r : Rec) (hc : checkE r = 0) (hq : consP r [] = true) : OKv cx 9 [.agg (eRec r)] (.tup [lSpan (spansP r), ai 0]) := by
  have hv := checkE_V hc
  have hns := hv.nstrikes
  have hl := nodesR_len r []
  have hs : OKv cx 25 [.agg (eRec r), .lst []] (.tup [gSys (nodesR r []) (linksR r []), ai 0]) := solved_good r [] hc (by decide) nomore hq
  have hat : ∀ k : Nat, k < r.strikes.length → OKv cx 27 [gSys (nodesR r []) (linksR r []), ai 3, ai k] (ai (3 + (k : Int))) := fun k hk => by rw [← atP_strike (r := r) (more := []) (i := k) hk]; exact at_ok (nodesR r []) (linksR r []) 3 k
  have hsp : ∀ k : Nat, k < r.strikes.length → OKv cx 26 [gSys (nodesR r []) (linksR r []), ai 0, ai (3 + (k : Int))] (.agg (eSpan (spanF (nodesR r []) (linksR r []) 0 (3 + k)))) := fun k hk => by
    have := spanI_ok (more := []) hv (by decide) nomore (f := 0) (t := 3 + (k : Int)) (by omega) (by omega)
    rwa [show (3 + (k : Int)).toNat = 3 + k by omega] at this
  unfold spansP
  obtain ⟨SPK, hSPK⟩ : ∃ f, (fun i => spanF (nodesR r []) (linksR r []) 0 (3 + i)) = f := ⟨_, rfl⟩
  have hsp : ∀ k : Nat, k < r.strikes.length → OKv cx 26 [gSys (nodesR r []) (linksR r []), ai 0, ai (3 + (k : Int))] (.agg (eSpan (SPK k))) := fun k hk => by rw [← hSPK]; exact hsp k hk
  rw [hSPK]
  refine OKat.of_body (rs := [2, 3]) Tryz.func9 rfl (by decide +kernel) rfl (by simp [Tryz.ntmps9]) ?_
  simp only [Tryz.ntmps9]
  repeat' first
    | apply jA | apply jB | apply jD | apply jE | apply jI
    | ((first | (apply jK kO; decide) | apply jR); (simp (disch := (first | omega | (simp only [vC]; omega))) only [push_cast, simprocAttr] <;> rfl); all_goals try ((with_reducible intro hI); try first | (cases hI; done) | (simp only [INTS, zL] at hI; try first | (exfalso; omega) | (have hT : True := hI; clear hT hI))))
    | ((apply jV kO; decide); (iterate 2 (simp (disch := (first | omega | (simp only [vC]; omega))) only [push_cast, simprocAttr] <;> rfl)); (with_reducible exact hs); try first | rfl | (simp (disch := (first | omega | (simp only [vC]; omega))) only [push_cast, simprocAttr] <;> rfl))

  refine AW.adopt 6 2 29 ?_ ?_
  · (simp (disch := omega) only [push_cast, simprocAttr])
  refine AW.loop (fun n s => ∃ (k : Nat), n = r.strikes.length - k ∧ (k ≤ r.strikes.length) ∧ 2 ≤ s.nx ∧ s.tm 1 = .ptr 0 0 0 1 ∧ s.tm 4 = gSys (nodesR r []) (linksR r []) ∧ s.tm 6 = .ref 1 0 k ∧ s.tm 18 = ai r.strikes.length ∧ s.tm 19 = ai k ∧ Pg.rowAt s.H (1) = some ({ k := 2, es := ((List.range k).map SPK).map eSpan, ty := 29, lo := k })) (r.strikes.length) ⟨0, rfl, (Nat.zero_le _), ?_, ?_, ?_, ?_, ?_, ?_, ?_⟩ ?_
  iterate 7 (first | (simp (disch := omega) only [push_cast, simprocAttr, List.range_zero] <;> first | rfl | omega) | omega)
  rintro n s ⟨k, hn, hp0, hnl, hS⟩
  have hZ : (1 : Nat) ≠ s.nx ∧ s.nx ≠ (1 : Nat) := by omega
  by_cases hk : k < r.strikes.length
  · have hkI : (k : Int) < (r.strikes.length : Int) := by omega
    have c1 := hat k hk
    have c2 := hsp k hk
    have hsu : (List.range (k + 1)).map SPK = (List.range k).map SPK ++ [SPK k] := by rw [List.range_succ, List.map_append]; rfl
    repeat' first
      | apply jA | apply jB | apply jD | apply jE | apply jI
      | ((first | (apply jK kO; decide) | apply jR); (simp (disch := (first | omega | (simp only [vC, List.length_range]; omega))) only [push_cast, simprocAttr, hS, hZ, hkI] <;> rfl); all_goals try ((with_reducible intro hI); try first | (cases hI; done) | (simp only [INTS, zL] at hI; try first | (exfalso; omega) | (have hT : True := hI; clear hT hI))))
      | (apply jT kO; decide; rfl; rfl; rfl; decide; (iterate 3 (simp (disch := (first | omega | (simp only [vC, List.length_range]; omega))) only [push_cast, simprocAttr, hS, hZ, hkI] <;> rfl)); (first | (focus (simp; done)) | (intro c hc; obtain ⟨x, _, rfl⟩ := List.mem_map.1 hc; rfl)); ((first | rfl | simp (disch := omega) only [push_cast])); ((try dsimp only); (try simp only [vC, List.length_range]); omega); ((try dsimp only); (try simp only [vC, List.length_range]); omega))
      | ((apply jV kO; decide); (iterate 2 (simp (disch := (first | omega | (simp only [vC, List.length_range]; omega))) only [push_cast, simprocAttr, hS, hZ, hkI] <;> rfl)); (with_reducible first | exact c1 | exact c2); try first | rfl | (simp (disch := (first | omega | (simp only [vC, List.length_range]; omega))) only [push_cast, simprocAttr, hS, hZ, hkI] <;> rfl))

    all_goals (refine ⟨r.strikes.length - (k + 1), ?_, k + 1, rfl, (by omega), ?_, ?_, ?_, ?_, ?_, ?_, ?_⟩; (omega); all_goals first | (simp (disch := omega) only [push_cast, simprocAttr, hS, hZ, hkI, hsu] <;> first | rfl | omega) | omega)
  have hkI : ¬ (k : Int) < (r.strikes.length : Int) := by omega
  have hkS : k = r.strikes.length := by omega
  subst hkS
  repeat' first
    | apply jA | apply jB | apply jC | apply jF | apply jI
    | ((first | (apply jK kO; decide) | apply jR); (simp (disch := (first | omega | (simp only [vC, List.length_range]; omega))) only [push_cast, simprocAttr, hS, hZ, hkI] <;> rfl); all_goals try ((with_reducible intro hI); try first | (cases hI; done) | (simp only [INTS, zL] at hI; try first | (exfalso; omega) | (have hT : True := hI; clear hT hI))))
    | ((apply W.ret2); (iterate 2 (try (simp (disch := (first | omega | (simp only [vC, List.length_range]; omega))) only [push_cast, simprocAttr, hS, hZ, hkI] <;> rfl))))

  all_goals (show _ = _; rfl)
end Go.Proofs.Ks

namespace Go.Proofs.Ks
open Go Go.Pg Go.Proofs Go.Proofs.Yt
def spansQ (r : Rec) : List Span × Int := if checkE r = 0 then (if consP r [] = true then (spansP r, 0) else ([], 9)) else ([], checkE r)
theorem Spans_ok (r : Rec) : OKv cx 9 [.agg (eRec r)] (.tup [lSpan (spansQ r).1, ai (spansQ r).2]) := by
  unfold spansQ
  rcases solved0 r with ⟨h1, h2⟩ | ⟨h1, h2, h3⟩ | ⟨h1, h2, h3⟩
  · rw [if_neg h1]
    exact Spans_err r _ h1 h2
  · rw [if_pos h1, h2, if_neg (by decide)]
    exact Spans_err r 9 (by decide) h3
  · rw [if_pos h1, h2, if_pos rfl]
    exact Spans_good r h1 h2
end Go.Proofs.Ks
