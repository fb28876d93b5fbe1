/-
  Contracts of functions, proved by going through their code. No conditions.
-/
import Derived.Test.YtbeiiipphicdlaaGreatDoorTaq
import Derived.Test.YtbeiiipphicdlaaGreatDoorTbe
import Derived.Test.YtbeiiipphicdlaaGreatDoorTbg
import Derived.Test.YtbeiiipphicdlaaGreatDoorTbh
set_option linter.unusedVariables false
set_option linter.unusedSimpArgs false
set_option maxHeartbeats 8000000
set_option maxRecDepth 10000
namespace Go.Proofs.Hz
open Go Go.Pg Go.Proofs
theorem SameInts_ok (a b : List Int) (ha : a.length ≤ 1099511627776) (hb : b.length ≤ 1099511627776) : OKv cx 19 [lInt a, lInt b] (ab (decide (a = b))) := by
  by_cases hl : a.length = b.length
  · have hl' : (a.length : Int) = (b.length : Int) := by omega
    refine OKat.of_body (rs := [4]) Tryz.func19 rfl (by decide +kernel) rfl (by simp [Tryz.ntmps19]) ?_
    simp only [Tryz.ntmps19]
    repeat' first
      | apply AW.seq | apply AW.region | apply AW.ret | apply AW.block | apply AW.skip | apply AW.exit | apply AW.scope | apply AW.label | apply AWL.nil | apply D.nil
      | refine W.draw cx_mixed (by decide +kernel) ?_
      | ((first | (apply W.step cx_ok; decide) | (apply D.step cx_ok; decide; decide) | apply AW.cond); (simp (disch := omega) only [push_cast, simprocAttr] <;> rfl); all_goals try ((with_reducible intro hI); try first | (cases hI; done) | (simp only [INTS] at hI; try first | (exfalso; omega) | (have hT : True := hI; clear hT hI))))
      | ((first | apply W.ret1 | apply W.end1); (iterate 2 (try (simp (disch := omega) only [push_cast, simprocAttr] <;> rfl))))
    refine AW.loop (fun n s => ∃ (k : Nat) (ra rb : List Int), n = ra.length ∧ (a.drop k = ra) ∧ (b.drop k = rb) ∧ (ra.length = rb.length) ∧ (decide (ra = rb) = decide (a = b)) ∧ s.tm 0 = lInt a ∧ s.tm 1 = lInt b ∧ s.tm 5 = ai k) (a.length) ⟨0, a, b, rfl, rfl, rfl, hl, rfl, ?_, ?_, ?_⟩ ?_
    iterate 3 (first | (simp (disch := omega) only [push_cast, simprocAttr] <;> first | rfl | omega) | omega)
    rintro n s ⟨k, ra, rb, hn, hp0, hp1, hp2, hp3, hS⟩
    rcases ra with _ | ⟨x, ra⟩
    · have hk := drop_nil hp0
      repeat' first
        | apply AW.seq | apply AW.region | apply AW.ret | apply AW.block | apply AW.skip | apply AW.exit | apply AW.scope | apply AW.label | apply AWL.nil | apply D.nil
        | refine W.draw cx_mixed (by decide +kernel) ?_
        | ((first | (apply W.step cx_ok; decide) | (apply D.step cx_ok; decide; decide) | apply AW.cond); (simp (disch := omega) only [push_cast, simprocAttr, hS, hk] <;> rfl); all_goals try ((with_reducible intro hI); try first | (cases hI; done) | (simp only [INTS] at hI; try first | (exfalso; omega) | (have hT : True := hI; clear hT hI))))
        | ((first | apply W.ret1 | apply W.end1); (iterate 2 (try (simp (disch := omega) only [push_cast, simprocAttr, hS, hk] <;> rfl))))
      all_goals
        (have hrb : rb = [] := List.eq_nil_of_length_eq_zero (by simpa using hp2.symm)
         show _ = _; rw [← hp3, hrb]; rfl)
    · obtain ⟨y, rb, rfl⟩ : ∃ y r, rb = y :: r := by
        cases rb with
        | nil => simp at hp2
        | cons y r => exact ⟨y, r, rfl⟩
      obtain ⟨hk, hg, hd', hl2, hm, hx⟩ := drop_cons hp0 eInt []
      obtain ⟨hkb, hgb, hdb, hlb, hmb, hxb⟩ := drop_cons hp1 eInt []
      have hp2' : ra.length = rb.length := by simpa using hp2
      repeat' first
        | apply AW.seq | apply AW.region | apply AW.ret | apply AW.block | apply AW.skip | apply AW.exit | apply AW.scope | apply AW.label | apply AWL.nil | apply D.nil
        | refine W.draw cx_mixed (by decide +kernel) ?_
        | ((first | (apply W.step cx_ok; decide) | (apply D.step cx_ok; decide; decide) | apply AW.cond); (simp (disch := omega) only [push_cast, simprocAttr, hS, hk, hg, hkb, hgb] <;> rfl); all_goals try ((with_reducible intro hI); try first | (cases hI; done) | (simp only [INTS] at hI; try first | (exfalso; omega) | (have hT : True := hI; clear hT hI))))
        | ((first | apply W.ret1 | apply W.end1); (iterate 2 (try (simp (disch := omega) only [push_cast, simprocAttr, hS, hk, hg, hkb, hgb] <;> rfl))))
      all_goals first
        | (show _ = _; rw [← hp3]; refine congrArg (fun b => AV.v (Value.bool b)) ?_; symm; rw [decide_eq_false_iff_not]; intro he; injection he with he1 he2; omega)
        | (have hxy : x = y := by omega
           have hp3' : decide (ra = rb) = decide (a = b) := by rw [← hp3, hxy]; simp
           (refine ⟨ra.length, ?_, k + 1, ra, rb, rfl, hd', hdb, hp2', hp3', ?_, ?_, ?_⟩; ((simp only [List.length_cons] at *; omega)); all_goals first | (simp (disch := omega) only [push_cast, simprocAttr, hS, hg, hk, hkb, hgb] <;> first | rfl | omega) | omega))
  · have hl' : ¬ (a.length : Int) = (b.length : Int) := by omega
    refine OKat.of_body (rs := [4]) Tryz.func19 rfl (by decide +kernel) rfl (by simp [Tryz.ntmps19]) ?_
    simp only [Tryz.ntmps19]
    repeat' first
      | apply AW.seq | apply AW.region | apply AW.ret | apply AW.block | apply AW.skip | apply AW.exit | apply AW.scope | apply AW.label | apply AWL.nil | apply D.nil
      | refine W.draw cx_mixed (by decide +kernel) ?_
      | ((first | (apply W.step cx_ok; decide) | (apply D.step cx_ok; decide; decide) | apply AW.cond); (simp (disch := omega) only [push_cast, simprocAttr, hl'] <;> rfl); all_goals try ((with_reducible intro hI); try first | (cases hI; done) | (simp only [INTS] at hI; try first | (exfalso; omega) | (have hT : True := hI; clear hT hI))))
      | ((first | apply W.ret1 | apply W.end1); (iterate 2 (try (simp (disch := omega) only [push_cast, simprocAttr, hl'] <;> rfl))))
    all_goals (show _ = _; refine congrArg (fun b => AV.v (Value.bool b)) ?_; symm; rw [decide_eq_false_iff_not]; intro he; exact hl (by rw [he]))
theorem askedTwo_ok (h : House) (a b ta tb : Int) (hfit : h.Fit) : OKv cx 36 [.agg (eHouse h), .lst [[ai a], [ai b]], .lst [[ai ta], [ai tb]]] (ai (askedE h [a, b] [ta, tb])) :=
  asked_ok h [a, b] [ta, tb] hfit (by simp) (by simp)
theorem askedE_two (h : House) (a b ta tb : Int) : askedE h [a, b] [ta, tb] = if roomE h a ta ≠ 0 then roomE h a ta else roomE h b tb := by
  unfold askedE roomE
  by_cases hc : (Check h).1 ≠ 0
  · rw [if_pos hc, if_pos hc, if_pos hc]
  · rw [if_neg hc, if_neg hc, if_neg hc]
    simp only [List.all_cons, List.all_nil, Bool.and_true, roomB, timeB, Bool.and_eq_true, decide_eq_true_eq]
    by_cases hA : 0 ≤ a ∧ a < (h.rooms.length : Int) <;> by_cases hB : 0 ≤ b ∧ b < (h.rooms.length : Int) <;> by_cases hT : 0 ≤ ta ∧ ta ≤ 1073741823 <;> by_cases hU : 0 ≤ tb ∧ tb ≤ 1073741823 <;> simp [hA, hB, hT, hU]
theorem askedE_two_zero {h : House} {a b ta tb : Int} (he : askedE h [a, b] [ta, tb] = 0) : (Check h).1 = 0 ∧ (0 ≤ a ∧ a < (h.rooms.length : Int)) ∧ (0 ≤ b ∧ b < (h.rooms.length : Int)) ∧ (0 ≤ ta ∧ ta ≤ 1073741823) ∧ (0 ≤ tb ∧ tb ≤ 1073741823) := by
  rw [askedE_two] at he
  split at he
  · rename_i hx; exact absurd he hx
  · rename_i hx
    obtain ⟨h1, h2, h3⟩ := roomE_zero (h := h) (n := a) (t := ta) (by simpa using hx)
    obtain ⟨_, h4, h5⟩ := roomE_zero he
    exact ⟨h1, h2, h4, h3, h5⟩
def neverB (x : Int) : Bool := decide (0 ≤ x) && decide (x ≤ 1073741824)
def fineG (h : House) (l : List Int) (g : Gate) : Bool := !(timeB (l.getD g.from'.toNat 0) && decide (enter h g (l.getD g.from'.toNat 0) < l.getD g.to.toNat 0))
def isWall (h : House) (a ta b tb : Int) (l : List Int) : Bool :=
  decide (l.length = h.rooms.length) && (l.all neverB && (decide (l.getD a.toNat 0 ≤ ta) && (decide (tb < l.getD b.toNat 0) && (gates h).all (fineG h l))))
def checkWallH (h : House) (a ta b tb : Int) (l : List Int) : Int := if askedE h [a, b] [ta, tb] ≠ 0 then askedE h [a, b] [ta, tb] else if isWall h a ta b tb l = true then 0 else 8
theorem CheckWall_ok (h : House) (a ta b tb : Int) (l : List Int) (hfit : h.Fit) (hll : l.length ≤ 1099511627776) : OKv cx 16 [.agg (eHouse h), ai a, ai ta, ai b, ai tb, lInt l] (ai (checkWallH h a ta b tb l)) := by
  by_cases he : askedE h [a, b] [ta, tb] = 0
  · obtain ⟨hc, hra, hrb, hta, htb⟩ := askedE_two_zero he
    have hv := Check_V hc
    have hgl := gates_len h
    have hwn := hv.nw
    have hrn := hv.rooms
    have hW : checkWallH h a ta b tb l = if isWall h a ta b tb l = true then 0 else 8 := if_neg (by simp [he])
    rw [hW]
    by_cases hln : l.length = h.rooms.length
    · have hle : (l.length : Int) = (h.rooms.length : Int) := by omega
      have ha1 := hra.1
      have ha2 : a < (l.length : Int) := by omega
      have ha3 : a.toNat < l.length := by omega
      have ha4 := hra.2
      have hb1 := hrb.1
      have hb2 : b < (l.length : Int) := by omega
      have hb3 : b.toNat < l.length := by omega
      have hb4 := hrb.2
      have hIW : isWall h a ta b tb l = (l.all neverB && (decide (l.getD a.toNat 0 ≤ ta) && (decide (tb < l.getD b.toNat 0) && (gates h).all (fineG h l)))) := by
        unfold isWall; rw [decide_eq_true hln, Bool.true_and]
      refine OKat.of_body (rs := [12]) Tryz.func16 rfl (by decide +kernel) rfl (by simp [Tryz.ntmps16]) ?_
      simp only [Tryz.ntmps16]
      repeat' first
        | apply AW.seq | apply AW.region | apply AW.ret | apply AW.block | apply AW.skip | apply AW.exit | apply AW.scope | apply AW.label | apply AWL.nil | apply D.nil
        | refine W.draw cx_mixed (by decide +kernel) ?_
        | ((first | (apply W.step cx_ok; decide) | (apply D.step cx_ok; decide; decide) | apply W.store cx_ok | (apply W.gS; rfl; decide) | (apply D.gS; rfl; decide; decide) | apply AW.cond); (simp (disch := omega) only [push_cast, simprocAttr, he, ha1, ha2, ha3, ha4, hb1, hb2, hb3, hb4] <;> rfl); all_goals try ((with_reducible intro hI); try first | (cases hI; done) | (simp only [INTS] at hI; try first | (exfalso; omega) | (have hT : True := hI; clear hT hI))))
        | ((first | (apply W.callv cx_ok; decide) | (apply D.callv cx_ok; decide; decide)); (iterate 2 (simp (disch := omega) only [push_cast, simprocAttr, he, ha1, ha2, ha3, ha4, hb1, hb2, hb3, hb4] <;> rfl)); (with_reducible first | exact askedTwo_ok _ _ _ _ _ hfit); try first | rfl | (simp (disch := omega) only [push_cast, simprocAttr, he, ha1, ha2, ha3, ha4, hb1, hb2, hb3, hb4] <;> rfl))
        | ((first | apply W.ret1 | apply W.end1); (iterate 2 (try (simp (disch := omega) only [push_cast, simprocAttr, he, ha1, ha2, ha3, ha4, hb1, hb2, hb3, hb4] <;> rfl))))
      refine AW.loop (fun n s => ∃ (k : Nat) (rest : List Int), n = rest.length ∧ (l.drop k = rest) ∧ (rest.all neverB = l.all neverB) ∧ 1 ≤ s.nx ∧ s.tm 1 = ai a ∧ s.tm 2 = ai ta ∧ s.tm 3 = ai b ∧ s.tm 4 = ai tb ∧ s.tm 5 = lInt l ∧ s.tm 6 = .ptr 0 0 0 1 ∧ s.tm 35 = lInt l ∧ s.tm 36 = ai l.length ∧ s.tm 37 = ai k ∧ Pg.rowAt s.H (0) = some ({ k := 3, es := [eHouse h], ty := 26 })) (l.length) ⟨0, _, rfl, rfl, rfl, ?_, ?_, ?_, ?_, ?_, ?_, ?_, ?_, ?_, ?_, ?_⟩ ?_
      iterate 11 (first | (simp (disch := omega) only [push_cast, simprocAttr, he, ha1, ha2, ha3, ha4, hb1, hb2, hb3, hb4] <;> first | rfl | omega) | omega)
      rintro n s ⟨k, rest, hn, hp0, hp1, hnl, hS⟩
      have hZ : (0 : Nat) ≠ s.nx ∧ s.nx ≠ (0 : Nat) := by omega
      rcases rest with _ | ⟨x, rest⟩
      · have hk := drop_nil hp0
        have hall : l.all neverB = true := by rw [← hp1]; rfl
        repeat' first
          | apply AW.seq | apply AW.region | apply AW.ret | apply AW.block | apply AW.skip | apply AW.exit | apply AW.scope | apply AW.label | apply AWL.nil | apply D.nil
          | refine W.draw cx_mixed (by decide +kernel) ?_
          | ((first | (apply W.step cx_ok; decide) | (apply D.step cx_ok; decide; decide) | apply W.store cx_ok | (apply W.gS; rfl; decide) | (apply D.gS; rfl; decide; decide) | apply AW.cond); (simp (disch := omega) only [push_cast, simprocAttr, hS, hZ, hk, he, ha1, ha2, ha3, ha4, hb1, hb2, hb3, hb4] <;> rfl); all_goals try ((with_reducible intro hI); try first | (cases hI; done) | (simp only [INTS] at hI; try first | (exfalso; omega) | (have hT : True := hI; clear hT hI))))
          | ((first | (apply W.callv cx_ok; decide) | (apply D.callv cx_ok; decide; decide)); (iterate 2 (simp (disch := omega) only [push_cast, simprocAttr, hS, hZ, hk, he, ha1, ha2, ha3, ha4, hb1, hb2, hb3, hb4] <;> rfl)); (with_reducible first | exact gates_ok h hfit.nw); try first | rfl | (simp (disch := omega) only [push_cast, simprocAttr, hS, hZ, hk, he, ha1, ha2, ha3, ha4, hb1, hb2, hb3, hb4] <;> rfl))
          | ((first | apply W.ret1 | apply W.end1); (iterate 2 (try (simp (disch := omega) only [push_cast, simprocAttr, hS, hZ, hk, he, ha1, ha2, ha3, ha4, hb1, hb2, hb3, hb4] <;> rfl))))
        all_goals try
          (have hf : isWall h a ta b tb l = false := by
             rw [hIW, hall]; simp only [Bool.true_and, Bool.and_eq_false_iff, decide_eq_false_iff_not]; omega
           show _ = _; rw [hf]; rfl)
        have hI2 : isWall h a ta b tb l = (gates h).all (fineG h l) := by
          rw [hIW, hall, decide_eq_true (by omega), decide_eq_true (by omega)]; rfl
        refine AW.loop (fun n s => ∃ (k : Nat) (rest : List Gate), n = rest.length ∧ ((gates h).drop k = rest) ∧ (rest.all (fineG h l) = (gates h).all (fineG h l)) ∧ 1 ≤ s.nx ∧ s.tm 5 = lInt l ∧ s.tm 6 = .ptr 0 0 0 1 ∧ s.tm 63 = .lst ((gates h).map eGate) ∧ s.tm 64 = ai (gates h).length ∧ s.tm 65 = ai k ∧ Pg.rowAt s.H (0) = some ({ k := 3, es := [eHouse h], ty := 26 })) ((gates h).length) ⟨0, _, rfl, rfl, rfl, ?_, ?_, ?_, ?_, ?_, ?_, ?_⟩ ?_
        iterate 7 (first | (simp (disch := omega) only [push_cast, simprocAttr, hS, hZ, hk, he, ha1, ha2, ha3, ha4, hb1, hb2, hb3, hb4] <;> first | rfl | omega) | omega)
        rintro n2 s2 ⟨k2, rest2, hn2, hp02, hp12, hnl2, hS2⟩
        have hZ2 : (0 : Nat) ≠ s2.nx ∧ s2.nx ≠ (0 : Nat) := by omega
        rcases rest2 with _ | ⟨x2, rest2⟩
        · have hk2 := drop_nil hp02
          repeat' first
            | apply AW.seq | apply AW.region | apply AW.ret | apply AW.block | apply AW.skip | apply AW.exit | apply AW.scope | apply AW.label | apply AWL.nil | apply D.nil
            | refine W.draw cx_mixed (by decide +kernel) ?_
            | ((first | (apply W.step cx_ok; decide) | (apply D.step cx_ok; decide; decide) | apply W.store cx_ok | (apply W.gS; rfl; decide) | (apply D.gS; rfl; decide; decide) | apply AW.cond); (simp (disch := omega) only [push_cast, simprocAttr, hS2, hZ2, hk2] <;> rfl); all_goals try ((with_reducible intro hI); try first | (cases hI; done) | (simp only [INTS] at hI; try first | (exfalso; omega) | (have hT : True := hI; clear hT hI))))
            | ((first | apply W.ret1 | apply W.end1); (iterate 2 (try (simp (disch := omega) only [push_cast, simprocAttr, hS2, hZ2, hk2] <;> rfl))))
          all_goals (show _ = _; rw [hI2, ← hp12]; rfl)
        · obtain ⟨hk2, hg2, hd'2, hl'2, hm2, hx2⟩ := drop_cons hp02 eGate []
          have hgo := gate_ok hv hm2
          have g1 := hgo.from'.1
          have g2 : x2.from' < (l.length : Int) := by have := hgo.from'.2; omega
          have g3 := hgo.to.1
          have g4 : x2.to < (l.length : Int) := by have := hgo.to.2; omega
          have g5 : x2.from'.toNat < l.length := by omega
          have g6 : x2.to.toNat < l.length := by omega
          have hx0 : neverB (l.getD x2.from'.toNat 0) = true := List.all_eq_true.1 hall _ (List.mem_of_getElem? (getD_set' l x2.from'.toNat 0 g5))
          simp only [neverB, Bool.and_eq_true, decide_eq_true_eq] at hx0
          repeat' first
            | apply AW.seq | apply AW.region | apply AW.ret | apply AW.block | apply AW.skip | apply AW.exit | apply AW.scope | apply AW.label | apply AWL.nil | apply D.nil
            | refine W.draw cx_mixed (by decide +kernel) ?_
            | ((first | (apply W.step cx_ok; decide) | (apply D.step cx_ok; decide; decide) | apply W.store cx_ok | (apply W.gS; rfl; decide) | (apply D.gS; rfl; decide; decide) | apply AW.cond); (simp (disch := omega) only [push_cast, simprocAttr, hS2, hZ2, hk2, hg2, g1, g2, g3, g4, g5, g6] <;> rfl); all_goals try ((with_reducible intro hI); try first | (cases hI; done) | (simp only [INTS] at hI; try first | (exfalso; omega) | (have hT : True := hI; clear hT hI))))
            | ((first | (apply W.callv cx_ok; decide) | (apply D.callv cx_ok; decide; decide)); (iterate 2 (simp (disch := omega) only [push_cast, simprocAttr, hS2, hZ2, hk2, hg2, g1, g2, g3, g4, g5, g6] <;> rfl)); (with_reducible first | exact time_ok _ | exact enter_ok h x2 _ hv hgo (by omega) (by omega)); try first | rfl | (simp (disch := omega) only [push_cast, simprocAttr, hS2, hZ2, hk2, hg2, g1, g2, g3, g4, g5, g6] <;> rfl))
            | ((first | apply W.ret1 | apply W.end1); (iterate 2 (try (simp (disch := omega) only [push_cast, simprocAttr, hS2, hZ2, hk2, hg2, g1, g2, g3, g4, g5, g6] <;> rfl))))
          all_goals first
            | (have hq : fineG h l x2 = true := by
                 simp only [fineG, timeB, Bool.not_eq_true', Bool.and_eq_false_iff, decide_eq_false_iff_not]; omega
               rw [List.all_cons, hq, Bool.true_and] at hp12
               (refine ⟨rest2.length, ?_, k2 + 1, rest2, rfl, hd'2, hp12, ?_, ?_, ?_, ?_, ?_, ?_, ?_⟩; ((simp only [List.length_cons] at *; omega)); all_goals first | (simp (disch := omega) only [push_cast, simprocAttr, hS2, hZ2, hg2, hk2] <;> first | rfl | omega) | omega))
            | (have hq : fineG h l x2 = false := by
                 simp only [fineG, timeB, Bool.not_eq_false', Bool.and_eq_true, decide_eq_true_eq]; omega
               show _ = _; rw [hI2, ← hp12, List.all_cons, hq]; rfl)
      · obtain ⟨hk, hg, hd', hl', hm, hx⟩ := drop_cons hp0 eInt []
        repeat' first
          | apply AW.seq | apply AW.region | apply AW.ret | apply AW.block | apply AW.skip | apply AW.exit | apply AW.scope | apply AW.label | apply AWL.nil | apply D.nil
          | refine W.draw cx_mixed (by decide +kernel) ?_
          | ((first | (apply W.step cx_ok; decide) | (apply D.step cx_ok; decide; decide) | apply W.store cx_ok | (apply W.gS; rfl; decide) | (apply D.gS; rfl; decide; decide) | apply AW.cond); (simp (disch := omega) only [push_cast, simprocAttr, hS, hZ, hk, hg, he, ha1, ha2, ha3, ha4, hb1, hb2, hb3, hb4] <;> rfl); all_goals try ((with_reducible intro hI); try first | (cases hI; done) | (simp only [INTS] at hI; try first | (exfalso; omega) | (have hT : True := hI; clear hT hI))))
          | ((first | apply W.ret1 | apply W.end1); (iterate 2 (try (simp (disch := omega) only [push_cast, simprocAttr, hS, hZ, hk, hg, he, ha1, ha2, ha3, ha4, hb1, hb2, hb3, hb4] <;> rfl))))
        all_goals first
          | (have hq : neverB x = false := by simp only [neverB, Bool.and_eq_false_iff, decide_eq_false_iff_not]; omega
             show _ = _; rw [hIW, ← hp1, List.all_cons, hq]; rfl)
          | (have hq : neverB x = true := by simp only [neverB, Bool.and_eq_true, decide_eq_true_eq]; omega
             rw [List.all_cons, hq, Bool.true_and] at hp1
             (refine ⟨rest.length, ?_, k + 1, rest, rfl, hd', hp1, ?_, ?_, ?_, ?_, ?_, ?_, ?_, ?_, ?_, ?_, ?_⟩; ((simp only [List.length_cons] at *; omega)); all_goals first | (simp (disch := omega) only [push_cast, simprocAttr, hS, hZ, hg, hk] <;> first | rfl | omega) | omega))
    · have hle : ¬ (l.length : Int) = (h.rooms.length : Int) := by omega
      have hIW : isWall h a ta b tb l = false := by unfold isWall; rw [decide_eq_false hln]; rfl
      refine OKat.of_body (rs := [12]) Tryz.func16 rfl (by decide +kernel) rfl (by simp [Tryz.ntmps16]) ?_
      simp only [Tryz.ntmps16]
      repeat' first
        | apply AW.seq | apply AW.region | apply AW.ret | apply AW.block | apply AW.skip | apply AW.exit | apply AW.scope | apply AW.label | apply AWL.nil | apply D.nil
        | refine W.draw cx_mixed (by decide +kernel) ?_
        | ((first | (apply W.step cx_ok; decide) | (apply D.step cx_ok; decide; decide) | apply W.store cx_ok | (apply W.gS; rfl; decide) | (apply D.gS; rfl; decide; decide) | apply AW.cond); (simp (disch := omega) only [push_cast, simprocAttr, he] <;> rfl); all_goals try ((with_reducible intro hI); try first | (cases hI; done) | (simp only [INTS] at hI; try first | (exfalso; omega) | (have hT : True := hI; clear hT hI))))
        | ((first | (apply W.callv cx_ok; decide) | (apply D.callv cx_ok; decide; decide)); (iterate 2 (simp (disch := omega) only [push_cast, simprocAttr, he] <;> rfl)); (with_reducible first | exact askedTwo_ok _ _ _ _ _ hfit); try first | rfl | (simp (disch := omega) only [push_cast, simprocAttr, he] <;> rfl))
        | ((first | apply W.ret1 | apply W.end1); (iterate 2 (try (simp (disch := omega) only [push_cast, simprocAttr, he] <;> rfl))))
      all_goals (show _ = _; rw [hIW]; rfl)
  · have hW : checkWallH h a ta b tb l = askedE h [a, b] [ta, tb] := if_pos he
    refine OKat.of_body (rs := [12]) Tryz.func16 rfl (by decide +kernel) rfl (by simp [Tryz.ntmps16]) ?_
    simp only [Tryz.ntmps16]
    repeat' first
      | apply AW.seq | apply AW.region | apply AW.ret | apply AW.block | apply AW.skip | apply AW.exit | apply AW.scope | apply AW.label | apply AWL.nil | apply D.nil
      | refine W.draw cx_mixed (by decide +kernel) ?_
      | ((first | (apply W.step cx_ok; decide) | (apply D.step cx_ok; decide; decide) | apply W.store cx_ok | (apply W.gS; rfl; decide) | (apply D.gS; rfl; decide; decide) | apply AW.cond); (simp (disch := omega) only [push_cast, simprocAttr, he] <;> rfl); all_goals try ((with_reducible intro hI); try first | (cases hI; done) | (simp only [INTS] at hI; try first | (exfalso; omega) | (have hT : True := hI; clear hT hI))))
      | ((first | (apply W.callv cx_ok; decide) | (apply D.callv cx_ok; decide; decide)); (iterate 2 (simp (disch := omega) only [push_cast, simprocAttr, he] <;> rfl)); (with_reducible first | exact askedTwo_ok _ _ _ _ _ hfit); try first | rfl | (simp (disch := omega) only [push_cast, simprocAttr, he] <;> rfl))
      | ((first | apply W.ret1 | apply W.end1); (iterate 2 (try (simp (disch := omega) only [push_cast, simprocAttr, he] <;> rfl))))
    all_goals (show _ = _; rw [hW])
end Go.Proofs.Hz

namespace Go.Proofs.Hz
open Go Go.Pg Go.Proofs
def exS : House := ⟨exH.rooms, [⟨[⟨21600, 64800⟩], [⟨21600, 21699⟩]⟩], exH.ways⟩
theorem exS_fit : exS.Fit := ⟨by decide, by decide, by decide, by decide, by decide⟩
def exT : ByteArray := ⟨#[114, 111, 111, 109, 32, 103, 97, 116, 101, 32, 48, 10, 114, 111, 111, 109, 32, 109, 105, 108, 108, 32, 48, 10, 114, 111, 111, 109, 32, 108, 111, 102, 116, 32, 49, 10, 100, 111, 111, 114, 32, 50, 49, 54, 48, 48, 45, 54, 52, 56, 48, 48, 32, 115, 104, 117, 116, 10, 119, 97, 121, 32, 48, 32, 49, 32, 54, 48, 32, 54, 48, 32, 45, 49, 10, 119, 97, 121, 32, 49, 32, 50, 32, 51, 48, 32, 48, 32, 48, 10]⟩
theorem v_ear : earliestH exH 0 64800 = ([64800, 64860, 108030], 0) := by decide +kernel
theorem v_lat : latestH exH 2 21700 = ([21610, 21670, 21700], 0) := by decide +kernel
theorem v_walk : Walk exH 0 0 [⟨0, false, 5⟩, ⟨1, false, 21600⟩] = (2, 21630, 0) := by decide +kernel
theorem v_one : checkWallH exH 0 0 2 21629 [0, 0, 21630] = 0 := by decide +kernel
theorem v_two : checkWallH exH 0 0 2 21630 [0, 60, 21630] = 8 := by decide +kernel
theorem v_next : nextOpenH exS 0 0 = (21700, 0) := by decide +kernel
theorem v_shut1 : (shutDoor exH 0 ⟨21600, 21699⟩).2 = 0 := by decide +kernel
theorem v_shut2 : (shutDoor exH 0 ⟨21600, 21699⟩).1.doors = exS.doors := by decide +kernel
theorem v_shut : shutDoor exH 0 ⟨21600, 21699⟩ = (exS, 0) := by
  have h1 := v_shut1
  have h2 := v_shut2
  have h3 : (shutDoor exH 0 ⟨21600, 21699⟩).1.rooms = exH.rooms := by
    unfold shutDoor at h1 ⊢
    split
    · rename_i h; rw [if_pos h] at h1; exact absurd h1 h
    · rename_i h; rw [if_neg h] at h1
      split
      · rename_i g; rw [if_pos g] at h1; cases h1
      · rename_i g; rw [if_neg g] at h1
        split
        · rename_i k; rw [if_pos k] at h1; cases h1
        · rfl
  have h4 : (shutDoor exH 0 ⟨21600, 21699⟩).1.ways = exH.ways := by
    unfold shutDoor at h1 ⊢
    split
    · rename_i h; rw [if_pos h] at h1; exact absurd h1 h
    · rename_i h; rw [if_neg h] at h1
      split
      · rename_i g; rw [if_pos g] at h1; cases h1
      · rename_i g; rw [if_neg g] at h1
        split
        · rename_i k; rw [if_pos k] at h1; cases h1
        · rfl
  generalize shutDoor exH 0 ⟨21600, 21699⟩ = r at *
  obtain ⟨⟨rr, rd, rw'⟩, e⟩ := r
  simp only at h1 h2 h3 h4
  subst h1; subst h2; subst h3; subst h4
  rfl
theorem v_print : printB exH = (exT, 0) := by
  have h1 : (printB exH).2 = 0 := by decide +kernel
  have h2 : (printB exH).1.data = exT.data := by decide +kernel
  generalize printB exH = r at *
  obtain ⟨⟨d⟩, e⟩ := r
  simp only at h1 h2
  subst h1; subst h2
  rfl
theorem s_ear : OKv cx 13 [.agg (eHouse exH), ai 0, ai 64800] (.tup [.lst [[ai 64800], [ai 64860], [ai 108030]], ai 0]) := by
  have := Earliest_ok exH 0 64800 exH_fit
  rw [v_ear] at this; exact this
theorem s_lat : OKv cx 14 [.agg (eHouse exH), ai 2, ai 21700] (.tup [.lst [[ai 21610], [ai 21670], [ai 21700]], ai 0]) := by
  have := Latest_ok exH 2 21700 exH_fit
  rw [v_lat] at this; exact this
theorem s_walk : OKv cx 15 [.agg (eHouse exH), ai 0, ai 0, .lst [[ai 0, ab false, ai 5], [ai 1, ab false, ai 21600]]] (.tup [ai 2, ai 21630, ai 0]) := by
  have := Walk_ok exH 0 0 [⟨0, false, 5⟩, ⟨1, false, 21600⟩] exH_fit (by decide)
  rw [v_walk] at this; exact this
theorem s_one : OKv cx 16 [.agg (eHouse exH), ai 0, ai 0, ai 2, ai 21629, .lst [[ai 0], [ai 0], [ai 21630]]] (ai 0) := by
  have := CheckWall_ok exH 0 0 2 21629 [0, 0, 21630] exH_fit (by decide)
  rw [v_one] at this; exact this
theorem s_two : OKv cx 16 [.agg (eHouse exH), ai 0, ai 0, ai 2, ai 21630, .lst [[ai 0], [ai 60], [ai 21630]]] (ai 8) := by
  have := CheckWall_ok exH 0 0 2 21630 [0, 60, 21630] exH_fit (by decide)
  rw [v_two] at this; exact this
theorem s_shut : OKv cx 17 [.agg (eHouse exH), ai 0, .agg [ai 21600, ai 21699]] (.tup [.agg (eHouse exS), ai 0]) := by
  have := Shut_ok exH 0 ⟨21600, 21699⟩ exH_fit
  rw [v_shut] at this; exact this
theorem s_next : OKv cx 18 [.agg (eHouse exS), ai 0, ai 0] (.tup [ai 21700, ai 0]) := by
  have := NextOpen_ok exS 0 0 exS_fit
  rw [v_next] at this; exact this
theorem s_print : OKv cx 7 [.agg (eHouse exH)] (.tup [at_ exT, ai 0]) := by
  have := Print_ok exH exH_fit
  rw [v_print] at this; exact this
theorem s_same1 : OKv cx 19 [.lst [[ai 64800], [ai 64860], [ai 108030]], .lst [[ai 64800], [ai 64860], [ai 108030]]] (ab true) := by
  have := SameInts_ok [64800, 64860, 108030] [64800, 64860, 108030] (by decide) (by decide)
  exact this
theorem s_same2 : OKv cx 19 [.lst [[ai 21610], [ai 21670], [ai 21700]], .lst [[ai 21610], [ai 21670], [ai 21700]]] (ab true) := by
  have := SameInts_ok [21610, 21670, 21700] [21610, 21670, 21700] (by decide) (by decide)
  exact this
end Go.Proofs.Hz

namespace Go.Proofs.Hz
open Go Go.Pg Go.Proofs
theorem sanity_ok : OKv cx 6 [] (ab true) := by
  refine OKat.of_body (rs := [0]) Tryz.func6 rfl (by decide +kernel) rfl (by simp [Tryz.ntmps6]) ?_
  simp only [Tryz.ntmps6]
  repeat' first
    | apply AW.seq | apply AW.region | apply AW.ret | apply AW.block | apply AW.skip | apply AW.exit | apply AW.scope | apply AW.label | apply AWL.nil
    | ((first | (apply W.step cx_ok; decide) | apply W.store cx_ok | (apply W.gS; rfl; decide) | apply AW.cond); (simp (disch := omega) only [push_cast, simprocAttr, Int.reduceAdd, Int.reduceLT, Int.reduceLE, Int.reduceToNat, Int.reduceNeg, Int.reduceEq, Int.cast_ofNat_Int, Int.natCast_one, Int.reduceBEq, Int.reduceBNe, Int.reduceNe, exT, List.toList_toArray] <;> rfl); all_goals try ((with_reducible intro hI); try first | (cases hI; done) | (simp only [INTS] at hI; try first | (exfalso; omega) | (have hT : True := hI; clear hT hI))))
    | ((apply W.callv cx_ok; decide); (iterate 2 (simp (disch := omega) only [push_cast, simprocAttr, Int.reduceAdd, Int.reduceLT, Int.reduceLE, Int.reduceToNat, Int.reduceNeg, Int.reduceEq, Int.cast_ofNat_Int, Int.natCast_one, Int.reduceBEq, Int.reduceBNe, Int.reduceNe, exT, List.toList_toArray] <;> rfl)); (with_reducible first | exact ex_ok | exact s_ear | exact s_lat | exact s_walk | exact s_one | exact s_two | exact s_shut | exact s_next | exact s_print | exact s_same1 | exact s_same2); try first | rfl | (simp (disch := omega) only [push_cast, simprocAttr, Int.reduceAdd, Int.reduceLT, Int.reduceLE, Int.reduceToNat, Int.reduceNeg, Int.reduceEq, Int.cast_ofNat_Int, Int.natCast_one, Int.reduceBEq, Int.reduceBNe, Int.reduceNe, exT, List.toList_toArray] <;> rfl))
    | ((first | apply W.ret1 | apply W.end1); (iterate 2 (try (simp (disch := omega) only [push_cast, simprocAttr, Int.reduceAdd, Int.reduceLT, Int.reduceLE, Int.reduceToNat, Int.reduceNeg, Int.reduceEq, Int.cast_ofNat_Int, Int.natCast_one, Int.reduceBEq, Int.reduceBNe, Int.reduceNe, exT, List.toList_toArray] <;> rfl))))
  all_goals (show _ = _; rfl)
end Go.Proofs.Hz
