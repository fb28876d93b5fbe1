/-
  Contracts of functions, proved by going through their code. No conditions.
-/
import Derived.Test.YtbeiiipphicdlaaGreatDoorTao
set_option linter.unusedVariables false
set_option linter.unusedSimpArgs false
set_option maxHeartbeats 8000000
set_option maxRecDepth 10000
namespace Go.Proofs.Hz
open Go Go.Pg Go.Proofs
theorem Orderly_ok (l : List Span) (most : Int) (hm : 0 ≤ most ∧ most ≤ 2147483648) (hl : l.length ≤ 1099511627776) : OKv cx 76 [lSpan l, ai most] (ab (Orderly l most)) := by
  refine OKat.of_body (rs := [4]) Tryz.func76 rfl (by decide +kernel) rfl (by simp [Tryz.ntmps76]) ?_
  simp only [Tryz.ntmps76]
  repeat' first
    | apply AW.seq | apply AW.region | apply AW.ret | apply AW.block | apply AW.skip | apply AW.exit | apply AW.scope | apply AW.label | apply AWL.nil | apply D.nil
    | refine W.draw cx_mixed (by decide +kernel) ?_
    | ((first | (apply W.step cx_ok; decide) | (apply D.step cx_ok; decide; decide) | (apply W.gS; rfl; decide) | (apply D.gS; rfl; decide; decide) | apply AW.cond); (simp (disch := omega) only [push_cast, simprocAttr] <;> rfl); all_goals try ((with_reducible intro hI); try first | (cases hI; done) | (simp only [INTS] at hI; try first | (exfalso; omega) | (have hT : True := hI; clear hT hI))))
    | ((first | apply W.ret1 | apply W.end1); (iterate 2 (try (simp (disch := omega) only [push_cast, simprocAttr] <;> rfl))))
  all_goals try (show _ = _; rw [Orderly, if_pos (by omega)]; done)
  have hO : Orderly l most = OrdL most none l := if_neg (by omega)
  rw [hO]
  refine AW.loop (fun n s => ∃ (k : Nat) (rest : List Span), n = rest.length ∧ (l.drop k = rest) ∧ (OrdL most (prv l k) rest = OrdL most none l) ∧ (∀ p, prv l k = some p → 0 ≤ p.hi ∧ p.hi ≤ most) ∧ s.tm 0 = lSpan l ∧ s.tm 1 = ai most ∧ s.tm 5 = ai k) (l.length) ⟨0, _, rfl, rfl, rfl, (by intro p hp; cases hp), ?_, ?_, ?_⟩ ?_
  iterate 3 (first | (simp (disch := omega) only [push_cast, simprocAttr] <;> first | rfl | omega) | omega)
  rintro n s ⟨k, rest, hn, hp0, hp1, hp2, hS⟩
  rcases rest with _ | ⟨x, rest⟩
  · have hk := drop_nil hp0
    repeat' first
      | apply AW.seq | apply AW.region | apply AW.ret | apply AW.block | apply AW.skip | apply AW.exit | apply AW.scope | apply AW.label | apply AWL.nil | apply D.nil
      | refine W.draw cx_mixed (by decide +kernel) ?_
      | ((first | (apply W.step cx_ok; decide) | (apply D.step cx_ok; decide; decide) | (apply W.gS; rfl; decide) | (apply D.gS; rfl; decide; decide) | apply AW.cond); (simp (disch := omega) only [push_cast, simprocAttr, hS, hk] <;> rfl); all_goals try ((with_reducible intro hI); try first | (cases hI; done) | (simp only [INTS] at hI; try first | (exfalso; omega) | (have hT : True := hI; clear hT hI))))
      | ((first | apply W.ret1 | apply W.end1); (iterate 2 (try (simp (disch := omega) only [push_cast, simprocAttr, hS, hk] <;> rfl))))
    all_goals (show _ = _; rw [← hp1]; unfold OrdL; first | rfl | (split <;> rfl))
  · obtain ⟨hk, hg, hd', hl', hmx, hx⟩ := drop_cons hp0 eSpan []
    have hpn : prv l (k + 1) = some x := by
      unfold prv
      rw [if_neg (by omega)]
      have := congrArg (fun m => m[0]?) hp0
      simpa using this
    rcases Nat.eq_zero_or_pos k with hkz' | hkz'
    · have hkz : ¬ ((0 : Int) < (k : Int)) := by omega
      have hpk : prv l k = none := by unfold prv; rw [if_pos hkz']
      repeat' first
        | apply AW.seq | apply AW.region | apply AW.ret | apply AW.block | apply AW.skip | apply AW.exit | apply AW.scope | apply AW.label | apply AWL.nil | apply D.nil
        | refine W.draw cx_mixed (by decide +kernel) ?_
        | ((first | (apply W.step cx_ok; decide) | (apply D.step cx_ok; decide; decide) | (apply W.gS; rfl; decide) | (apply D.gS; rfl; decide; decide) | apply AW.cond); (simp (disch := omega) only [push_cast, simprocAttr, hS, hk, hg, hkz] <;> rfl); all_goals try ((with_reducible intro hI); try first | (cases hI; done) | (simp only [INTS] at hI; try first | (exfalso; omega) | (have hT : True := hI; clear hT hI))))
        | ((first | (apply W.callv cx_ok; decide) | (apply D.callv cx_ok; decide; decide)); (iterate 2 (simp (disch := omega) only [push_cast, simprocAttr, hS, hk, hg, hkz] <;> rfl)); (with_reducible first | exact In_ok _ _ _); try first | rfl | (simp (disch := omega) only [push_cast, simprocAttr, hS, hk, hg, hkz] <;> rfl))
        | ((first | apply W.ret1 | apply W.end1); (iterate 2 (try (simp (disch := omega) only [push_cast, simprocAttr, hS, hk, hg, hkz] <;> rfl))))
      all_goals first
        | (have hq : OrdL most (prv l k) (x :: rest) = false := by rw [hpk]; unfold OrdL; rw [if_pos (by omega)]
           show _ = _; rw [← hp1, hq]; done)
        | (have hq : OrdL most (prv l k) (x :: rest) = false := by rw [hpk]; unfold OrdL; rw [if_neg (by omega), if_pos (by omega)]
           show _ = _; rw [← hp1, hq]; done)
        | (have hq : OrdL most (prv l k) (x :: rest) = OrdL most (some x) rest := by rw [hpk, OrdL]; rw [if_neg (by omega)]
           rw [hq] at hp1
           (refine ⟨rest.length, ?_, k + 1, rest, rfl, hd', (by rw [hpn]; exact hp1), (by intro p hp; rw [hpn] at hp; injection hp with hp; subst hp; omega), ?_, ?_, ?_⟩; ((simp only [List.length_cons] at *; omega)); all_goals first | (simp (disch := omega) only [push_cast, simprocAttr, hS, hg, hk] <;> first | rfl | omega) | omega))
    · have hkz : (0 : Int) < (k : Int) := by omega
      obtain ⟨p, hpl⟩ : ∃ p, l[k - 1]? = some p := ⟨_, List.getElem?_eq_getElem (by omega)⟩
      have hpk : prv l k = some p := by unfold prv; rw [if_neg (by omega)]; exact hpl
      have hph := hp2 p hpk
      have hka : 0 ≤ (k : Int) - 1 := by omega
      have hkb : (k : Int) - 1 < (l.length : Int) := by omega
      have hgp : (l.map eSpan).getD ((k : Int) - 1).toNat [] = eSpan p := by
        rw [show ((k : Int) - 1).toNat = k - 1 by omega, List.getD_eq_getElem?_getD, List.getElem?_map, hpl]; rfl
      repeat' first
        | apply AW.seq | apply AW.region | apply AW.ret | apply AW.block | apply AW.skip | apply AW.exit | apply AW.scope | apply AW.label | apply AWL.nil | apply D.nil
        | refine W.draw cx_mixed (by decide +kernel) ?_
        | ((first | (apply W.step cx_ok; decide) | (apply D.step cx_ok; decide; decide) | (apply W.gS; rfl; decide) | (apply D.gS; rfl; decide; decide) | apply AW.cond); (simp (disch := omega) only [push_cast, simprocAttr, hS, hk, hg, hkz, hka, hkb, hgp] <;> rfl); all_goals try ((with_reducible intro hI); try first | (cases hI; done) | (simp only [INTS] at hI; try first | (exfalso; omega) | (have hT : True := hI; clear hT hI))))
        | ((first | (apply W.callv cx_ok; decide) | (apply D.callv cx_ok; decide; decide)); (iterate 2 (simp (disch := omega) only [push_cast, simprocAttr, hS, hk, hg, hkz, hka, hkb, hgp] <;> rfl)); (with_reducible first | exact In_ok _ _ _); try first | rfl | (simp (disch := omega) only [push_cast, simprocAttr, hS, hk, hg, hkz, hka, hkb, hgp] <;> rfl))
        | ((first | apply W.ret1 | apply W.end1); (iterate 2 (try (simp (disch := omega) only [push_cast, simprocAttr, hS, hk, hg, hkz, hka, hkb, hgp] <;> rfl))))
      all_goals first
        | (have hq : OrdL most (prv l k) (x :: rest) = false := by rw [hpk]; unfold OrdL; rw [if_pos (by omega)]
           show _ = _; rw [← hp1, hq]; done)
        | (have hq : OrdL most (prv l k) (x :: rest) = false := by rw [hpk]; unfold OrdL; rw [if_neg (by omega), if_pos (by omega)]
           show _ = _; rw [← hp1, hq]; done)
        | (have hq : OrdL most (prv l k) (x :: rest) = OrdL most (some x) rest := by rw [hpk, OrdL]; rw [if_neg (by omega), if_neg (by omega)]
           rw [hq] at hp1
           (refine ⟨rest.length, ?_, k + 1, rest, rfl, hd', (by rw [hpn]; exact hp1), (by intro p hp; rw [hpn] at hp; injection hp with hp; subst hp; omega), ?_, ?_, ?_⟩; ((simp only [List.length_cons] at *; omega)); all_goals first | (simp (disch := omega) only [push_cast, simprocAttr, hS, hg, hk] <;> first | rfl | omega) | omega))
theorem way_ok (h : House) (w : Way) (hr : h.rooms.length ≤ 1048576) (hd : h.doors.length ≤ 1048576) : OKv cx 77 [.agg (eHouse h), .agg (eWay w)] (ab (decide (w.OK h.rooms.length h.doors.length))) := by
  refine OKat.of_body (rs := [4]) Tryz.func77 rfl (by decide +kernel) rfl (by simp [Tryz.ntmps77]) ?_
  simp only [Tryz.ntmps77]
  repeat' first
    | apply AW.seq | apply AW.region | apply AW.ret | apply AW.block | apply AW.skip | apply AW.exit | apply AW.scope | apply AW.label | apply AWL.nil
    | ((first | (apply W.step cx_ok; decide) | (apply W.gS; rfl; decide) | apply AW.cond); (simp (disch := omega) only [push_cast, simprocAttr] <;> rfl); all_goals try ((with_reducible intro hI); try first | (cases hI; done) | (simp only [INTS] at hI; try first | (exfalso; omega) | (have hT : True := hI; clear hT hI))))
    | ((apply W.callv cx_ok; decide); (iterate 2 (simp (disch := omega) only [push_cast, simprocAttr] <;> rfl)); (with_reducible first | exact In_ok _ _ _); try first | rfl | (simp (disch := omega) only [push_cast, simprocAttr] <;> rfl))
    | ((first | apply W.ret1 | apply W.end1); (iterate 2 (try (simp (disch := omega) only [push_cast, simprocAttr] <;> rfl))))
  all_goals (show _ = _; refine congrArg (fun b => AV.v (Value.bool b)) ?_; rw [Bool.eq_iff_iff]; simp only [Bool.and_eq_true, decide_eq_true_eq, Bool.false_eq_true, false_iff, true_iff]; unfold Way.OK; omega)
theorem CheckR_ok (h : House) (hfit : h.Fit) : OKv cx 51 [.agg (eHouse h)] (.tup [ai (Check h).1, ai (Check h).2]) := by
  have hfn := hfit.nd
  have hfr := hfit.rooms
  have hfw := hfit.nw
  refine OKat.of_body (rs := [2, 3]) Tryz.func51 rfl (by decide +kernel) rfl (by simp [Tryz.ntmps51]) ?_
  simp only [Tryz.ntmps51]
  repeat' first
    | apply AW.seq | apply AW.region | apply AW.ret | apply AW.block | apply AW.skip | apply AW.exit | apply AW.scope | apply AW.label | apply AWL.nil | apply D.nil
    | refine W.draw cx_mixed (by decide +kernel) ?_
    | ((first | (apply W.step cx_ok; decide) | (apply D.step cx_ok; decide; decide) | (apply W.gS; rfl; decide) | (apply D.gS; rfl; decide; decide) | apply AW.cond); (simp (disch := omega) only [push_cast, simprocAttr] <;> rfl); all_goals try ((with_reducible intro hI); try first | (cases hI; done) | (simp only [INTS] at hI; try first | (exfalso; omega) | (have hT : True := hI; clear hT hI))))
    | ((first | apply W.ret2 | apply W.end2); (iterate 2 (try (simp (disch := omega) only [push_cast, simprocAttr] <;> rfl))))
  all_goals try (show _ = _; rw [show Check h = (1, -1) from if_pos (by omega)]; done)
  all_goals try (show _ = _; rw [show Check h = (2, -1) from (if_neg (by omega)).trans (if_pos (by omega))]; done)
  have hC : Check h = chk1 h := (if_neg (by omega)).trans (if_neg (by omega))
  refine AW.loop (fun n s => ∃ (k : Nat) (rest : List Room), n = rest.length ∧ (h.rooms.drop k = rest) ∧ (chkR k (h.rooms.take k) rest = chkR 0 [] h.rooms) ∧ 1 ≤ s.nx ∧ s.tm 1 = .ptr 0 0 0 1 ∧ s.tm 4 = ai k ∧ Pg.rowAt s.H (0) = some ({ k := 3, es := [eHouse h], ty := 26 })) (h.rooms.length) ⟨0, _, rfl, rfl, rfl, ?_, ?_, ?_, ?_⟩ ?_
  iterate 4 (first | (simp (disch := omega) only [push_cast, simprocAttr] <;> first | rfl | omega) | omega)
  rintro n s ⟨k, rest, hn, hp0, hp1, hnl, hS⟩
  have hZ : (0 : Nat) ≠ s.nx ∧ s.nx ≠ (0 : Nat) := by omega
  rcases rest with _ | ⟨x, rest⟩
  · have hk := drop_nil hp0
    repeat' first
      | apply AW.seq | apply AW.region | apply AW.ret | apply AW.block | apply AW.skip | apply AW.exit | apply AW.scope | apply AW.label | apply AWL.nil | apply D.nil
      | refine W.draw cx_mixed (by decide +kernel) ?_
      | ((first | (apply W.step cx_ok; decide) | (apply D.step cx_ok; decide; decide) | (apply W.gS; rfl; decide) | (apply D.gS; rfl; decide; decide) | apply AW.cond); (simp (disch := omega) only [push_cast, simprocAttr, hS, hZ, hk] <;> rfl); all_goals try ((with_reducible intro hI); try first | (cases hI; done) | (simp only [INTS] at hI; try first | (exfalso; omega) | (have hT : True := hI; clear hT hI))))
      | ((first | apply W.ret2 | apply W.end2); (iterate 2 (try (simp (disch := omega) only [push_cast, simprocAttr, hS, hZ, hk] <;> rfl))))
    have hE1 : Check h = chk2 h := by rw [hC, chk1, ← hp1]; rfl
    refine AW.loop (fun n s => ∃ (k : Nat) (rest : List Door), n = rest.length ∧ (h.doors.drop k = rest) ∧ (chkD k rest = chkD 0 h.doors) ∧ 1 ≤ s.nx ∧ s.tm 1 = .ptr 0 0 0 1 ∧ s.tm 7 = ai k ∧ Pg.rowAt s.H (0) = some ({ k := 3, es := [eHouse h], ty := 26 })) (h.doors.length) ⟨0, _, rfl, rfl, rfl, ?_, ?_, ?_, ?_⟩ ?_
    iterate 4 (first | (simp (disch := omega) only [push_cast, simprocAttr, hS, hZ, hk] <;> first | rfl | omega) | omega)
    rintro n2 s2 ⟨k2, rest2, hn2, hp02, hp12, hnl2, hS2⟩
    have hZ2 : (0 : Nat) ≠ s2.nx ∧ s2.nx ≠ (0 : Nat) := by omega
    rcases rest2 with _ | ⟨x2, rest2⟩
    · have hk2 := drop_nil hp02
      repeat' first
        | apply AW.seq | apply AW.region | apply AW.ret | apply AW.block | apply AW.skip | apply AW.exit | apply AW.scope | apply AW.label | apply AWL.nil | apply D.nil
        | refine W.draw cx_mixed (by decide +kernel) ?_
        | ((first | (apply W.step cx_ok; decide) | (apply D.step cx_ok; decide; decide) | (apply W.gS; rfl; decide) | (apply D.gS; rfl; decide; decide) | apply AW.cond); (simp (disch := omega) only [push_cast, simprocAttr, hS2, hZ2, hk2] <;> rfl); all_goals try ((with_reducible intro hI); try first | (cases hI; done) | (simp only [INTS] at hI; try first | (exfalso; omega) | (have hT : True := hI; clear hT hI))))
        | ((first | (apply W.callv cx_ok; decide) | (apply D.callv cx_ok; decide; decide)); (iterate 2 (simp (disch := omega) only [push_cast, simprocAttr, hS2, hZ2, hk2] <;> rfl)); (with_reducible first | exact Orderly_ok _ _ (by decide) (by have := hfit.doors _ hm2; omega)); try first | rfl | (simp (disch := omega) only [push_cast, simprocAttr, hS2, hZ2, hk2] <;> rfl))
        | ((first | apply W.ret2 | apply W.end2); (iterate 2 (try (simp (disch := omega) only [push_cast, simprocAttr, hS2, hZ2, hk2] <;> rfl))))
      have hE2 : Check h = chk3 h := by rw [hE1, chk2, ← hp12]; rfl
      refine AW.loop (fun n s => ∃ (k : Nat) (rest : List Way), n = rest.length ∧ (h.ways.drop k = rest) ∧ (chkW h.rooms.length h.doors.length k rest = chkW h.rooms.length h.doors.length 0 h.ways) ∧ 1 ≤ s.nx ∧ s.tm 1 = .ptr 0 0 0 1 ∧ s.tm 10 = ai k ∧ Pg.rowAt s.H (0) = some ({ k := 3, es := [eHouse h], ty := 26 })) (h.ways.length) ⟨0, _, rfl, rfl, rfl, ?_, ?_, ?_, ?_⟩ ?_
      iterate 4 (first | (simp (disch := omega) only [push_cast, simprocAttr, hS2, hZ2, hk2] <;> first | rfl | omega) | omega)
      rintro n3 s3 ⟨k3, rest3, hn3, hp03, hp13, hnl3, hS3⟩
      have hZ3 : (0 : Nat) ≠ s3.nx ∧ s3.nx ≠ (0 : Nat) := by omega
      rcases rest3 with _ | ⟨x3, rest3⟩
      · have hk3 := drop_nil hp03
        repeat' first
          | apply AW.seq | apply AW.region | apply AW.ret | apply AW.block | apply AW.skip | apply AW.exit | apply AW.scope | apply AW.label | apply AWL.nil | apply D.nil
          | refine W.draw cx_mixed (by decide +kernel) ?_
          | ((first | (apply W.step cx_ok; decide) | (apply D.step cx_ok; decide; decide) | (apply W.gS; rfl; decide) | (apply D.gS; rfl; decide; decide) | apply AW.cond); (simp (disch := omega) only [push_cast, simprocAttr, hS3, hZ3, hk3] <;> rfl); all_goals try ((with_reducible intro hI); try first | (cases hI; done) | (simp only [INTS] at hI; try first | (exfalso; omega) | (have hT : True := hI; clear hT hI))))
          | ((first | (apply W.callv cx_ok; decide) | (apply D.callv cx_ok; decide; decide)); (iterate 2 (simp (disch := omega) only [push_cast, simprocAttr, hS3, hZ3, hk3] <;> rfl)); (with_reducible first | exact way_ok _ _ hfr hfn); try first | rfl | (simp (disch := omega) only [push_cast, simprocAttr, hS3, hZ3, hk3] <;> rfl))
          | ((first | apply W.ret2 | apply W.end2); (iterate 2 (try (simp (disch := omega) only [push_cast, simprocAttr, hS3, hZ3, hk3] <;> rfl))))
        all_goals (show _ = _; rw [show Check h = (0, -1) by rw [hE2, chk3, ← hp13]; rfl])
      · obtain ⟨hk3, hg3, hd'3, hl'3, hm3, hx3⟩ := drop_cons hp03 eWay []
        repeat' first
          | apply AW.seq | apply AW.region | apply AW.ret | apply AW.block | apply AW.skip | apply AW.exit | apply AW.scope | apply AW.label | apply AWL.nil | apply D.nil
          | refine W.draw cx_mixed (by decide +kernel) ?_
          | ((first | (apply W.step cx_ok; decide) | (apply D.step cx_ok; decide; decide) | (apply W.gS; rfl; decide) | (apply D.gS; rfl; decide; decide) | apply AW.cond); (simp (disch := omega) only [push_cast, simprocAttr, hS3, hZ3, hk3, hg3] <;> rfl); all_goals try ((with_reducible intro hI); try first | (cases hI; done) | (simp only [INTS] at hI; try first | (exfalso; omega) | (have hT : True := hI; clear hT hI))))
          | ((first | (apply W.callv cx_ok; decide) | (apply D.callv cx_ok; decide; decide)); (iterate 2 (simp (disch := omega) only [push_cast, simprocAttr, hS3, hZ3, hk3, hg3] <;> rfl)); (with_reducible first | exact way_ok _ _ hfr hfn); try first | rfl | (simp (disch := omega) only [push_cast, simprocAttr, hS3, hZ3, hk3, hg3] <;> rfl))
          | ((first | apply W.ret2 | apply W.end2); (iterate 2 (try (simp (disch := omega) only [push_cast, simprocAttr, hS3, hZ3, hk3, hg3] <;> rfl))))
        all_goals first
          | (have hE3 : Check h = (1, (k3 : Int)) := by rw [hE2, chk3, ← hp13, chkW, if_neg (by assumption)]
             show _ = _; rw [hE3]; done)
          | (rw [chkW, if_pos (by assumption)] at hp13
             (refine ⟨rest3.length, ?_, k3 + 1, rest3, rfl, hd'3, hp13, ?_, ?_, ?_, ?_⟩; ((simp only [List.length_cons] at *; omega)); all_goals first | (simp (disch := omega) only [push_cast, simprocAttr, hS3, hZ3, hg3, hk3] <;> first | rfl | omega) | omega))
    · obtain ⟨hk2, hg2, hd'2, hl'2, hm2, hx2⟩ := drop_cons hp02 eDoor []
      repeat' first
        | apply AW.seq | apply AW.region | apply AW.ret | apply AW.block | apply AW.skip | apply AW.exit | apply AW.scope | apply AW.label | apply AWL.nil | apply D.nil
        | refine W.draw cx_mixed (by decide +kernel) ?_
        | ((first | (apply W.step cx_ok; decide) | (apply D.step cx_ok; decide; decide) | (apply W.gS; rfl; decide) | (apply D.gS; rfl; decide; decide) | apply AW.cond); (simp (disch := omega) only [push_cast, simprocAttr, hS2, hZ2, hk2, hg2] <;> rfl); all_goals try ((with_reducible intro hI); try first | (cases hI; done) | (simp only [INTS] at hI; try first | (exfalso; omega) | (have hT : True := hI; clear hT hI))))
        | ((first | (apply W.callv cx_ok; decide) | (apply D.callv cx_ok; decide; decide)); (iterate 2 (simp (disch := omega) only [push_cast, simprocAttr, hS2, hZ2, hk2, hg2] <;> rfl)); (with_reducible first | exact Orderly_ok _ _ (by decide) (by have := hfit.doors _ hm2; omega)); try first | rfl | (simp (disch := omega) only [push_cast, simprocAttr, hS2, hZ2, hk2, hg2] <;> rfl))
        | ((first | apply W.ret2 | apply W.end2); (iterate 2 (try (simp (disch := omega) only [push_cast, simprocAttr, hS2, hZ2, hk2, hg2] <;> rfl))))
      all_goals first
        | (have hE3 : Check h = (1, (k2 : Int)) := by rw [hE1, chk2, ← hp12, chkD, if_neg (by rw [orderly_eq _ _ (by decide), orderly_eq _ _ (by decide)]; simp [*])]
           show _ = _; rw [hE3]; done)
        | (rw [chkD, if_pos (by rw [orderly_eq _ _ (by decide), orderly_eq _ _ (by decide)]; constructor <;> assumption)] at hp12
           (refine ⟨rest2.length, ?_, k2 + 1, rest2, rfl, hd'2, hp12, ?_, ?_, ?_, ?_⟩; ((simp only [List.length_cons] at *; omega)); all_goals first | (simp (disch := omega) only [push_cast, simprocAttr, hS2, hZ2, hg2, hk2] <;> first | rfl | omega) | omega))
  · obtain ⟨hk, hg, hd', hl', hm, hx⟩ := drop_cons hp0 eRoom []
    have htk : h.rooms.take (k + 1) = h.rooms.take k ++ [x] := by
      rw [List.take_add_one]
      have := congrArg (fun m => m[0]?) hp0
      simp only [List.getElem?_drop, Nat.add_zero, List.getElem?_cons_zero] at this
      rw [this]; rfl
    repeat' first
      | apply AW.seq | apply AW.region | apply AW.ret | apply AW.block | apply AW.skip | apply AW.exit | apply AW.scope | apply AW.label | apply AWL.nil | apply D.nil
      | refine W.draw cx_mixed (by decide +kernel) ?_
      | ((first | (apply W.step cx_ok; decide) | (apply D.step cx_ok; decide; decide) | (apply W.gS; rfl; decide) | (apply D.gS; rfl; decide; decide) | apply AW.cond); (simp (disch := omega) only [push_cast, simprocAttr, hS, hZ, hk, hg] <;> rfl); all_goals try ((with_reducible intro hI); try first | (cases hI; done) | (simp only [INTS] at hI; try first | (exfalso; omega) | (have hT : True := hI; clear hT hI))))
      | ((first | (apply W.callv cx_ok; decide) | (apply D.callv cx_ok; decide; decide)); (iterate 2 (simp (disch := omega) only [push_cast, simprocAttr, hS, hZ, hk, hg] <;> rfl)); (with_reducible first | exact Name_ok _ | exact In_ok _ _ _); try first | rfl | (simp (disch := omega) only [push_cast, simprocAttr, hS, hZ, hk, hg] <;> rfl))
      | ((first | apply W.ret2 | apply W.end2); (iterate 2 (try (simp (disch := omega) only [push_cast, simprocAttr, hS, hZ, hk, hg] <;> rfl))))
    all_goals try
      (have hE3 : Check h = (1, (k : Int)) := by rw [hC, chk1, ← hp1, chkR, if_neg (by rw [named_eq]; first | omega | simp [*])]
       show _ = _; rw [hE3]; done)
    have hok : named x.name = true ∧ -60 ≤ x.floor ∧ x.floor ≤ 60 := by rw [named_eq]; refine ⟨by assumption, ?_, ?_⟩ <;> omega
    refine AW.loop (fun n s => ∃ (j : Nat) (pre : List Room), n = pre.length ∧ ((h.rooms.take k).drop j = pre) ∧ (hasN pre x.name = hasN (h.rooms.take k) x.name) ∧ 1 ≤ s.nx ∧ s.tm 1 = .ptr 0 0 0 1 ∧ s.tm 4 = ai k ∧ s.tm 6 = ai j ∧ Pg.rowAt s.H (0) = some ({ k := 3, es := [eHouse h], ty := 26 })) ((h.rooms.take k).length) ⟨0, _, rfl, rfl, rfl, ?_, ?_, ?_, ?_, ?_⟩ ?_
    iterate 5 (first | (simp (disch := omega) only [push_cast, simprocAttr, hS, hZ, hk, hg] <;> first | rfl | omega) | omega)
    rintro ni si ⟨ji, prei, hni, hp0i, hp1i, hnli, hSi⟩
    have hZi : (0 : Nat) ≠ si.nx ∧ si.nx ≠ (0 : Nat) := by omega
    rcases prei with _ | ⟨y, prei⟩
    · have hki : ¬ ((ji : Int) < (k : Int)) := by have := drop_nil hp0i; rw [List.length_take] at this; omega
      repeat' first
        | apply AW.seq | apply AW.region | apply AW.ret | apply AW.block | apply AW.skip | apply AW.exit | apply AW.scope | apply AW.label | apply AWL.nil | apply D.nil
        | refine W.draw cx_mixed (by decide +kernel) ?_
        | ((first | (apply W.step cx_ok; decide) | (apply D.step cx_ok; decide; decide) | (apply W.gS; rfl; decide) | (apply D.gS; rfl; decide; decide) | apply AW.cond); (simp (disch := omega) only [push_cast, simprocAttr, hSi, hZi, hki, hk, hg] <;> rfl); all_goals try ((with_reducible intro hI); try first | (cases hI; done) | (simp only [INTS] at hI; try first | (exfalso; omega) | (have hT : True := hI; clear hT hI))))
        | ((first | apply W.ret2 | apply W.end2); (iterate 2 (try (simp (disch := omega) only [push_cast, simprocAttr, hSi, hZi, hki, hk, hg] <;> rfl))))
      all_goals
        (rw [chkR, if_pos hok, if_neg (by rw [← hp1i]; simp [hasN]), ← htk] at hp1
         (refine ⟨rest.length, ?_, k + 1, rest, rfl, hd', hp1, ?_, ?_, ?_, ?_⟩; ((simp only [List.length_cons] at *; omega)); all_goals first | (simp (disch := omega) only [push_cast, simprocAttr, hSi, hZi, hg, hk] <;> first | rfl | omega) | omega))
    · obtain ⟨hki, hkl, hgi, hdi, hli⟩ := take_drop_cons (by omega) hp0i eRoom []
      repeat' first
        | apply AW.seq | apply AW.region | apply AW.ret | apply AW.block | apply AW.skip | apply AW.exit | apply AW.scope | apply AW.label | apply AWL.nil | apply D.nil
        | refine W.draw cx_mixed (by decide +kernel) ?_
        | ((first | (apply W.step cx_ok; decide) | (apply D.step cx_ok; decide; decide) | (apply W.gS; rfl; decide) | (apply D.gS; rfl; decide; decide) | apply AW.cond); (simp (disch := omega) only [push_cast, simprocAttr, hSi, hZi, hki, hkl, hgi, hk, hg] <;> rfl); all_goals try ((with_reducible intro hI); try first | (cases hI; done) | (simp only [INTS] at hI; try first | (exfalso; omega) | (have hT : True := hI; clear hT hI))))
        | ((first | apply W.ret2 | apply W.end2); (iterate 2 (try (simp (disch := omega) only [push_cast, simprocAttr, hSi, hZi, hki, hkl, hgi, hk, hg] <;> rfl))))
      all_goals first
        | (have hn6 : hasN (h.rooms.take k) x.name = true := by rw [← hp1i, hasN_cons, Bool.or_eq_true]; left; simp [*]
           have hE3 : Check h = (6, (k : Int)) := by rw [hC, chk1, ← hp1, chkR, if_pos hok, if_pos hn6]
           show _ = _; rw [hE3]; done)
        | (have hn6 : hasN prei x.name = hasN (h.rooms.take k) x.name := by
             rw [← hp1i, hasN_cons]
             have hbf : (y.name.data.toList == x.name.data.toList) = false := by rw [beq_eq_false_iff_ne]; assumption
             rw [hbf, Bool.false_or]
           (refine ⟨prei.length, ?_, ji + 1, prei, rfl, hdi, hn6, ?_, ?_, ?_, ?_, ?_⟩; ((simp only [List.length_cons] at *; omega)); all_goals first | (simp (disch := omega) only [push_cast, simprocAttr, hSi, hZi, hgi, hki, hk, hg] <;> first | rfl | omega) | omega))
theorem Error_ok (h : House) (hfit : h.Fit) : OKv cx 26 [.agg (eHouse h)] (ai (Check h).1) := by
  refine OKat.of_body (rs := [2]) Tryz.func26 rfl (by decide +kernel) rfl (by simp [Tryz.ntmps26]) ?_
  simp only [Tryz.ntmps26]
  repeat' first
    | apply AW.seq | apply AW.region | apply AW.ret | apply AW.block | apply AW.skip | apply AW.exit | apply AW.scope | apply AW.label | apply AWL.nil
    | ((first | (apply W.step cx_ok; decide) | apply AW.cond); (simp (disch := omega) only [push_cast, simprocAttr] <;> rfl); all_goals try ((with_reducible intro hI); try first | (cases hI; done) | (simp only [INTS] at hI; try first | (exfalso; omega) | (have hT : True := hI; clear hT hI))))
    | ((apply W.callv cx_ok; decide); (iterate 2 (simp (disch := omega) only [push_cast, simprocAttr] <;> rfl)); (with_reducible first | exact CheckR_ok _ hfit); try first | rfl | (simp (disch := omega) only [push_cast, simprocAttr] <;> rfl))
    | ((first | apply W.ret1 | apply W.end1); (iterate 2 (try (simp (disch := omega) only [push_cast, simprocAttr] <;> rfl))))
  all_goals (show _ = _; rfl)
end Go.Proofs.Hz
