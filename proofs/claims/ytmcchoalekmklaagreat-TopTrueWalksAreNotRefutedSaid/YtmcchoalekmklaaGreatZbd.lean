/-
  Contracts of functions, proved by going through their code. No conditions.
-/
import Derived.Test.YtmcchoalekmklaaGreatZai
import Derived.Test.YtmcchoalekmklaaGreatZbb
import Derived.Test.YtmcchoalekmklaaGreatZbc
set_option linter.unusedVariables false
set_option linter.unusedSimpArgs false
set_option maxHeartbeats 8000000
set_option maxRecDepth 10000
namespace Go.Proofs.Hs
open Go Go.Pg Go.Proofs Go.Proofs.Yt
theorem asked_ok (h : House) (rs ts : List Int) (hfit : h.Fit) (hrs : rs.length ≤ 1099511627776) (hts : ts.length ≤ 1099511627776) : OKv cx 28 [.agg (eHouse h), lInt rs, lInt ts] (ai (askedE h rs ts)) := by
  refine OKat.of_body (rs := [6]) Tryz.func28 rfl (by decide +kernel) rfl (by simp [Tryz.ntmps28]) ?_
  simp only [Tryz.ntmps28]
  repeat' first
    | apply jA | apply jB | apply jC | apply jD | apply jE | apply jI
    | ((first | (apply jK kO; decide) | apply jR); (simp (disch := omega) only [push_cast, simprocAttr] <;> rfl); all_goals try ((with_reducible intro hI); try first | (cases hI; done) | (simp only [INTS] at hI; try first | (exfalso; omega) | (have hT : True := hI; clear hT hI))))
    | ((apply jV kO; decide); (iterate 2 (simp (disch := omega) only [push_cast, simprocAttr] <;> rfl)); (with_reducible exact Check_ok _ hfit); try first | rfl | (simp (disch := omega) only [push_cast, simprocAttr] <;> rfl))
    | ((apply W.ret1); (iterate 2 (try (simp (disch := omega) only [push_cast, simprocAttr] <;> rfl))))
  all_goals try (show _ = _; rw [askedE, if_pos (by assumption)]; done)
  have hE : askedE h rs ts = if rs.all (roomB h) = true then (if ts.all timeB = true then 0 else 1) else 1 := if_neg (by simp [*])
  refine AW.loop (fun n s => ∃ (k : Nat) (rest : List Int), n = rest.length ∧ (rs.drop k = rest) ∧ (rest.all (roomB h) = rs.all (roomB h)) ∧ 1 ≤ s.nx ∧ s.tm 2 = lInt ts ∧ s.tm 3 = .ptr 0 0 0 1 ∧ s.tm 21 = lInt rs ∧ s.tm 22 = ai rs.length ∧ s.tm 23 = ai k ∧ Pg.rowAt s.H (0) = some ({ k := 3, es := [eHouse h], ty := 26 })) (rs.length) ⟨0, _, rfl, rfl, rfl, ?_, ?_, ?_, ?_, ?_, ?_, ?_⟩ ?_
  iterate 7 (first | (simp (disch := omega) only [push_cast, simprocAttr] <;> first | rfl | omega) | omega)
  rintro n s ⟨k, rest, hn, hp0, hp1, hnl, hS⟩
  have hZ : (0 : Nat) ≠ s.nx ∧ s.nx ≠ (0 : Nat) := by omega
  rcases rest with _ | ⟨x, rest⟩
  · have hk := drop_nil hp0
    repeat' first
      | apply jA | apply jB | apply jD | apply jF | apply jI
      | ((first | (apply jK kO; decide) | apply jR); (simp (disch := omega) only [push_cast, simprocAttr, hS, hZ, hk] <;> rfl); all_goals try ((with_reducible intro hI); try first | (cases hI; done) | (simp only [INTS] at hI; try first | (exfalso; omega) | (have hT : True := hI; clear hT hI))))
    have hE1 : askedE h rs ts = if ts.all timeB = true then 0 else 1 := by rw [hE, ← hp1]; rfl
    refine AW.loop (fun n s => ∃ (k : Nat) (rest : List Int), n = rest.length ∧ (ts.drop k = rest) ∧ (rest.all timeB = ts.all timeB) ∧ 1 ≤ s.nx ∧ s.tm 3 = .ptr 0 0 0 1 ∧ s.tm 34 = lInt ts ∧ s.tm 35 = ai ts.length ∧ s.tm 36 = ai k ∧ Pg.rowAt s.H (0) = some ({ k := 3, es := [eHouse h], ty := 26 })) (ts.length) ⟨0, _, rfl, rfl, rfl, ?_, ?_, ?_, ?_, ?_, ?_⟩ ?_
    iterate 6 (first | (simp (disch := omega) only [push_cast, simprocAttr, hS, hZ, hk] <;> first | rfl | omega) | omega)
    rintro n2 s2 ⟨k2, rest2, hn2, hp02, hp12, hnl2, hS2⟩
    have hZ2 : (0 : Nat) ≠ s2.nx ∧ s2.nx ≠ (0 : Nat) := by omega
    rcases rest2 with _ | ⟨x2, rest2⟩
    · have hk2 := drop_nil hp02
      repeat' first
        | apply jA | apply jB | apply jC | apply jF | apply jI
        | ((first | (apply jK kO; decide) | apply jR); (simp (disch := omega) only [push_cast, simprocAttr, hS2, hZ2, hk2] <;> rfl); all_goals try ((with_reducible intro hI); try first | (cases hI; done) | (simp only [INTS] at hI; try first | (exfalso; omega) | (have hT : True := hI; clear hT hI))))
        | ((apply W.ret1); (iterate 2 (try (simp (disch := omega) only [push_cast, simprocAttr, hS2, hZ2, hk2] <;> rfl))))
      all_goals (show _ = _; rw [hE1, ← hp12]; rfl)
    · obtain ⟨hk2, hg2, hd'2, hl'2, hm2, hx2⟩ := drop_cons hp02 eInt []
      repeat' first
        | apply jA | apply jB | apply jC | apply jD | apply jE | apply jI
        | ((first | (apply jK kO; decide) | apply jR); (simp (disch := omega) only [push_cast, simprocAttr, hS2, hZ2, hk2, hg2] <;> rfl); all_goals try ((with_reducible intro hI); try first | (cases hI; done) | (simp only [INTS] at hI; try first | (exfalso; omega) | (have hT : True := hI; clear hT hI))))
        | ((apply jV kO; decide); (iterate 2 (simp (disch := omega) only [push_cast, simprocAttr, hS2, hZ2, hk2, hg2] <;> rfl)); (with_reducible exact time_ok _); try first | rfl | (simp (disch := omega) only [push_cast, simprocAttr, hS2, hZ2, hk2, hg2] <;> rfl))
        | ((apply W.ret1); (iterate 2 (try (simp (disch := omega) only [push_cast, simprocAttr, hS2, hZ2, hk2, hg2] <;> rfl))))
      all_goals first
        | (have hq : timeB x2 = false := by simp only [timeB, Bool.and_eq_false_iff, decide_eq_false_iff_not]; omega
           show _ = _; rw [hE1, ← hp12, List.all_cons, hq]; rfl)
        | (have hq : timeB x2 = true := by simp only [timeB, Bool.and_eq_true, decide_eq_true_eq]; omega
           rw [List.all_cons, hq, Bool.true_and] at hp12
           (refine ⟨rest2.length, ?_, k2 + 1, rest2, rfl, hd'2, hp12, ?_, ?_, ?_, ?_, ?_, ?_⟩; ((simp only [List.length_cons] at *; omega)); all_goals first | (simp (disch := omega) only [push_cast, simprocAttr, hS2, hZ2, hg2, hk2] <;> first | rfl | omega) | omega))
  · obtain ⟨hk, hg, hd', hl', hm, hx⟩ := drop_cons hp0 eInt []
    repeat' first
      | apply jA | apply jB | apply jC | apply jD | apply jE | apply jI
      | ((first | (apply jK kO; decide) | apply jR); (simp (disch := omega) only [push_cast, simprocAttr, hS, hZ, hk, hg] <;> rfl); all_goals try ((with_reducible intro hI); try first | (cases hI; done) | (simp only [INTS] at hI; try first | (exfalso; omega) | (have hT : True := hI; clear hT hI))))
      | ((apply jV kO; decide); (iterate 2 (simp (disch := omega) only [push_cast, simprocAttr, hS, hZ, hk, hg] <;> rfl)); (with_reducible exact index_ok _ _); try first | rfl | (simp (disch := omega) only [push_cast, simprocAttr, hS, hZ, hk, hg] <;> rfl))
      | ((apply W.ret1); (iterate 2 (try (simp (disch := omega) only [push_cast, simprocAttr, hS, hZ, hk, hg] <;> rfl))))
    all_goals first
      | (have hq : roomB h x = false := by simp only [roomB, Bool.and_eq_false_iff, decide_eq_false_iff_not]; omega
         show _ = _; rw [hE, ← hp1, List.all_cons, hq]; rfl)
      | (have hq : roomB h x = true := by simp only [roomB, Bool.and_eq_true, decide_eq_true_eq]; omega
         rw [List.all_cons, hq, Bool.true_and] at hp1
         (refine ⟨rest.length, ?_, k + 1, rest, rfl, hd', hp1, ?_, ?_, ?_, ?_, ?_, ?_, ?_⟩; ((simp only [List.length_cons] at *; omega)); all_goals first | (simp (disch := omega) only [push_cast, simprocAttr, hS, hZ, hg, hk] <;> first | rfl | omega) | omega))
theorem gates_ok (h : House) (hw : h.ways.length ≤ 1048576) : OKv cx 30 [.agg (eHouse h)] (.lst ((gates h).map eGate)) := by
  refine OKat.of_body (rs := [2]) Tryz.func30 rfl (by decide +kernel) rfl (by simp [Tryz.ntmps30]) ?_
  simp only [Tryz.ntmps30]
  repeat' first
    | apply jA | apply jB | apply jD | apply jI
    | ((apply jK kO; decide); (simp (disch := omega) only [push_cast, simprocAttr] <;> rfl))
  refine AW.adopt 3 6 117 ?_ ?_
  · simp only [push_cast, simprocAttr]
  refine AW.loop (fun n s => ∃ (k : Nat) (out : List Gate) (rest : List Way), n = rest.length ∧ (h.ways.drop k = rest) ∧ (out ++ gatesL k rest = gates h) ∧ (out.length ≤ 2 * k) ∧ 2 ≤ s.nx ∧ s.tm 1 = .ptr 0 0 0 1 ∧ s.tm 3 = .ref 1 0 out.length ∧ s.tm 7 = .lst (h.ways.map eWay) ∧ s.tm 8 = ai h.ways.length ∧ s.tm 9 = ai k ∧ Pg.rowAt s.H (0) = some ({ k := 3, es := [eHouse h], ty := 26 }) ∧ Pg.rowAt s.H (1) = some ({ k := 6, es := out.map eGate, ty := 117, lo := out.length })) (h.ways.length) ⟨0, [], _, rfl, rfl, rfl, Nat.zero_le _, ?_, ?_, ?_, ?_, ?_, ?_, ?_, ?_⟩ ?_
  iterate 8 (first | (simp (disch := omega) only [push_cast, simprocAttr] <;> first | rfl | omega) | omega)
  rintro n s ⟨k, out, rest, hn, hp0, hp1, hp2, hnl, hS⟩
  have hZ : (0 : Nat) ≠ s.nx ∧ s.nx ≠ (0 : Nat) ∧ (1 : Nat) ≠ s.nx ∧ s.nx ≠ (1 : Nat) := by omega
  rcases rest with _ | ⟨x, rest⟩
  · have hk := drop_nil hp0
    repeat' first
      | apply jA | apply jB | apply jC | apply jF | apply jI
      | ((first | (apply jK kO; decide) | apply jR); (simp (disch := omega) only [push_cast, simprocAttr, hS, hZ, hk, zE, zY, List.append_assoc, zD, zC, zV, List.isEmpty_nil, take_map_all, pure_gate] <;> rfl); all_goals try ((with_reducible intro hI); try first | (cases hI; done) | (simp only [INTS] at hI; try first | (exfalso; omega) | (have hT : True := hI; clear hT hI))))
      | ((apply W.ret1); (iterate 2 (try (simp (disch := omega) only [push_cast, simprocAttr, hS, hZ, hk, zE, zY, List.append_assoc, zD, zC, zV, List.isEmpty_nil, take_map_all, pure_gate] <;> rfl))))
    have ho : out = gates h := by simpa [gatesL] using hp1
    all_goals (show _ = _; rw [ho])
  · obtain ⟨hk, hg, hd', hl', hm, hx⟩ := drop_cons hp0 eWay []
    repeat' first
      | apply jA | apply jB | apply jD | apply jE | apply jI
      | ((first | (apply jK kO; decide) | apply jM kO | apply jR); (simp (disch := omega) only [push_cast, simprocAttr, hS, hZ, hk, hg, zE, zY, List.append_assoc, zD, zC, zV, List.isEmpty_nil, take_map_all, pure_gate] <;> rfl); all_goals try ((with_reducible intro hI); try first | (cases hI; done) | (simp only [INTS] at hI; try first | (exfalso; omega) | (have hT : True := hI; clear hT hI))))
      | (apply jT kO; decide; rfl; rfl; rfl; decide; (iterate 3 (simp (disch := omega) only [push_cast, simprocAttr, hS, hZ, hk, hg, zE, zY, List.append_assoc, zD, zC, zV, List.isEmpty_nil, take_map_all, pure_gate] <;> rfl)); simp; (rfl); ((try dsimp only); (try simp only [vC]); omega); ((try dsimp only); (try simp only [vC]); omega))
    all_goals first
      | (rw [gatesL, if_pos (by omega)] at hp1
         (refine ⟨rest.length, ?_, k + 1, out ++ [⟨(k : Int), false, x.a, x.b, x.secs, x.door⟩, ⟨(k : Int), true, x.b, x.a, x.back, x.door⟩], rest, rfl, hd', (by simpa using hp1), (by simp; omega), ?_, ?_, ?_, ?_, ?_, ?_, ?_, ?_⟩; ((simp only [List.length_cons] at *; omega)); all_goals first | (simp (disch := omega) only [push_cast, simprocAttr, hS, hZ, hg, hk, zE, zY, List.append_assoc, zD, zC, zV, List.isEmpty_nil] <;> first | rfl | omega) | omega))
      | (rw [gatesL, if_neg (by omega)] at hp1
         (refine ⟨rest.length, ?_, k + 1, out ++ [⟨(k : Int), false, x.a, x.b, x.secs, x.door⟩], rest, rfl, hd', (by simpa using hp1), (by simp; omega), ?_, ?_, ?_, ?_, ?_, ?_, ?_, ?_⟩; ((simp only [List.length_cons] at *; omega)); all_goals first | (simp (disch := omega) only [push_cast, simprocAttr, hS, hZ, hg, hk, zE, zY, List.append_assoc, zD, zC, zV, List.isEmpty_nil] <;> first | rfl | omega) | omega))
theorem gateAsked1_ok (g : Gate) (way : Int) (back : Bool) : OKv cx 57 [.agg (eGate g), .iptr [ai way] 0, .iptr [ab back] 0] (ab (isG way back g)) := by
  refine OKat.of_body (rs := [4]) Tryz.func57 rfl (by decide +kernel) rfl (by simp [Tryz.ntmps57]) ?_
  simp only [Tryz.ntmps57]
  repeat' first
    | apply jA | apply jB | apply jC | apply jI
    | ((first | (apply jK kO; decide) | (apply jN; rfl; decide)); (simp (disch := omega) only [push_cast, simprocAttr] <;> rfl); all_goals try ((with_reducible intro hI); try first | (cases hI; done) | (simp only [INTS] at hI; try first | (exfalso; omega) | (have hT : True := hI; clear hT hI))))
    | ((apply W.ret1); (iterate 2 (try (simp (disch := omega) only [push_cast, simprocAttr] <;> rfl))))
  all_goals (show _ = _; first | (simp [isG, *]; done) | (simp only [isG]; simp_all))
theorem indexFunc_ok (gs : List Gate) (way : Int) (back : Bool) (hl : gs.length ≤ 1099511627776) : OKv cx 56 [.lst (gs.map eGate), .clo 57 [.iptr [ai way] 0, .iptr [ab back] 0]] (ai (idxG (isG way back) 0 gs)) := by
  refine OKat.of_body (rs := [4]) Tryz.func56 rfl (by decide +kernel) rfl (by simp [Tryz.ntmps56]) ?_
  simp only [Tryz.ntmps56]
  repeat' first
    | apply jA | apply jB | apply jD | apply jI
    | ((apply jK kO; decide); (simp (disch := omega) only [push_cast, simprocAttr] <;> rfl))
  refine AW.loop (fun n s => ∃ (k : Nat) (rest : List Gate), n = rest.length ∧ (gs.drop k = rest) ∧ (idxG (isG way back) k rest = idxG (isG way back) 0 gs) ∧ s.tm 0 = .lst (gs.map eGate) ∧ s.tm 1 = .clo 57 [.iptr [ai way] 0, .iptr [ab back] 0] ∧ s.tm 7 = ai gs.length ∧ s.tm 8 = ai k) (gs.length) ⟨0, _, rfl, rfl, rfl, ?_, ?_, ?_, ?_⟩ ?_
  iterate 4 (first | (simp (disch := omega) only [push_cast, simprocAttr] <;> first | rfl | omega) | omega)
  rintro n s ⟨k, rest, hn, hp0, hp1, hS⟩
  rcases rest with _ | ⟨x, rest⟩
  · have hk := drop_nil hp0
    repeat' first
      | apply jA | apply jB | apply jC | apply jF | apply jI
      | ((first | (apply jK kO; decide) | apply jR); (simp (disch := omega) only [push_cast, simprocAttr, hS, hk] <;> rfl); all_goals try ((with_reducible intro hI); try first | (cases hI; done) | (simp only [INTS] at hI; try first | (exfalso; omega) | (have hT : True := hI; clear hT hI))))
      | ((apply W.ret1); (iterate 2 (try (simp (disch := omega) only [push_cast, simprocAttr, hS, hk] <;> rfl))))
    all_goals (show _ = _; rw [← hp1]; rfl)
  · obtain ⟨hk, hg, hd', hl', hm, hx⟩ := drop_cons hp0 eGate []
    repeat' first
      | apply jA | apply jB | apply jC | apply jD | apply jE | apply jI
      | ((first | (apply jK kO; decide) | apply jR); (simp (disch := omega) only [push_cast, simprocAttr, hS, hk, hg] <;> rfl); all_goals try ((with_reducible intro hI); try first | (cases hI; done) | (simp only [INTS] at hI; try first | (exfalso; omega) | (have hT : True := hI; clear hT hI))))
      | ((apply jV kO; decide); (iterate 2 (simp (disch := omega) only [push_cast, simprocAttr, hS, hk, hg] <;> rfl)); (with_reducible exact gateAsked1_ok _ _ _); try first | rfl | (simp (disch := omega) only [push_cast, simprocAttr, hS, hk, hg] <;> rfl))
      | ((apply W.ret1); (iterate 2 (try (simp (disch := omega) only [push_cast, simprocAttr, hS, hk, hg] <;> rfl))))
    all_goals first
      | (show _ = _; rw [← hp1, idxG, if_pos (by assumption)]; done)
      | (rw [idxG, if_neg (by simp [*])] at hp1
         (refine ⟨rest.length, ?_, k + 1, rest, rfl, hd', hp1, ?_, ?_, ?_, ?_⟩; ((simp only [List.length_cons] at *; omega)); all_goals first | (simp (disch := omega) only [push_cast, simprocAttr, hS, hg, hk] <;> first | rfl | omega) | omega))
theorem gates_len (h : House) : (gates h).length ≤ 2 * h.ways.length := by
  have : ∀ (l : List Way) (i : Nat), (gatesL i l).length ≤ 2 * l.length := by
    intro l
    induction l with
    | nil => intro i; simp [gatesL]
    | cons w rest ih => intro i; have := ih (i + 1); unfold gatesL; split <;> simp <;> omega
  exact this _ _
theorem gateAsked_ok (h : House) (way : Int) (back : Bool) (t : Int) (hfit : h.Fit) : OKv cx 36 [.agg (eHouse h), ai way, ab back, ai t] (.tup [.agg (eGate (gateAsked h way back t).1), ai (gateAsked h way back t).2]) := by
  have hgl := gates_len h
  have hfw := hfit.nw
  have hfr := hfit.rooms
  obtain ⟨hlo, hhi⟩ := idxG_lo (isG way back) (gates h)
  by_cases hneg : idxG (isG way back) 0 (gates h) < 0
  · refine OKat.of_bodyC kO (rs := [.cell 8 117, .tmp 9]) Tryz.func36 rfl (by decide +kernel) rfl (by decide) (by simp [Tryz.ntmps36]) ?_
    simp only [Tryz.ntmps36]
    repeat' first
      | apply jA | apply jB | apply jC | apply jE | apply jI
      | ((first | (apply jK kO; decide) | apply jM kO | (apply jN; rfl; decide) | apply jR); (simp (disch := omega) only [push_cast, simprocAttr, hneg] <;> rfl); all_goals try ((with_reducible intro hI); try first | (cases hI; done) | (simp only [INTS] at hI; try first | (exfalso; omega) | (have hT : True := hI; clear hT hI))))
      | ((apply jV kO; decide); (iterate 2 (simp (disch := omega) only [push_cast, simprocAttr, hneg] <;> rfl)); (with_reducible first | exact Check_ok _ hfit | exact index_ok _ _ | exact time_ok _ | exact gates_ok _ hfit.nw | exact indexFunc_ok _ _ _ (by omega)); try first | rfl | (simp (disch := omega) only [push_cast, simprocAttr, hneg] <;> rfl))
      | ((apply W.retC); (iterate 2 (try (simp (disch := omega) only [push_cast, simprocAttr, hneg] <;> rfl))))
    all_goals first
      | (have hq : gateAsked h way back t = (.zero, (Check h).1) := by unfold gateAsked; rw [if_pos (by assumption)]
         show _ = _; rw [hq]; try rfl)
      | (have hq : gateAsked h way back t = (.zero, 1) := by unfold gateAsked; rw [if_neg (by omega), if_pos (by unfold timeOK; omega)]
         show _ = _; rw [hq]; try rfl)
      | (have hq : gateAsked h way back t = (.zero, 5) := by unfold gateAsked; rw [if_neg (by omega), if_neg (by unfold timeOK; omega), if_pos hneg]
         show _ = _; rw [hq]; try rfl)
  · have hk0 : 0 ≤ idxG (isG way back) 0 (gates h) := by omega
    have hgd := getD_map eGate (gates h) (idxG (isG way back) 0 (gates h)).toNat [] .zero (by omega)
    refine OKat.of_bodyC kO (rs := [.cell 8 117, .tmp 9]) Tryz.func36 rfl (by decide +kernel) rfl (by decide) (by simp [Tryz.ntmps36]) ?_
    simp only [Tryz.ntmps36]
    repeat' first
      | apply jA | apply jB | apply jC | apply jE | apply jI
      | ((first | (apply jK kO; decide) | apply jM kO | (apply jN; rfl; decide) | apply jR); (simp (disch := omega) only [push_cast, simprocAttr, hneg, hk0, hhi, hgd] <;> rfl); all_goals try ((with_reducible intro hI); try first | (cases hI; done) | (simp only [INTS] at hI; try first | (exfalso; omega) | (have hT : True := hI; clear hT hI))))
      | ((apply jV kO; decide); (iterate 2 (simp (disch := omega) only [push_cast, simprocAttr, hneg, hk0, hhi, hgd] <;> rfl)); (with_reducible first | exact Check_ok _ hfit | exact index_ok _ _ | exact time_ok _ | exact gates_ok _ hfit.nw | exact indexFunc_ok _ _ _ (by omega)); try first | rfl | (simp (disch := omega) only [push_cast, simprocAttr, hneg, hk0, hhi, hgd] <;> rfl))
      | ((apply W.retC); (iterate 2 (try (simp (disch := omega) only [push_cast, simprocAttr, hneg, hk0, hhi, hgd] <;> rfl))))
    all_goals first
      | (have hq : gateAsked h way back t = (.zero, (Check h).1) := by unfold gateAsked; rw [if_pos (by assumption)]
         show _ = _; rw [hq]; try rfl)
      | (have hq : gateAsked h way back t = (.zero, 1) := by unfold gateAsked; rw [if_neg (by omega), if_pos (by unfold timeOK; omega)]
         show _ = _; rw [hq]; try rfl)
      | (have hq : gateAsked h way back t = ((gates h).getD (idxG (isG way back) 0 (gates h)).toNat .zero, 0) := by unfold gateAsked; rw [if_neg (by omega), if_neg (by unfold timeOK; omega), if_neg hneg]
         show _ = _; rw [hq]; try rfl)
end Go.Proofs.Hs

namespace Go.Proofs.Hs
open Go Go.Pg Go.Proofs Go.Proofs.Yt
theorem askedOne_ok (h : House) (n t : Int) (hfit : h.Fit) : OKv cx 28 [.agg (eHouse h), .lst [[ai n]], .lst [[ai t]]] (ai (askedE h [n] [t])) :=
  asked_ok h [n] [t] hfit (by simp) (by simp)
theorem Walk_ok (h : House) (from' t : Int) (l : List Step) (hfit : h.Fit) (hl : l.length ≤ 1099511627776) :
    OKv cx 19 [.agg (eHouse h), ai from', ai t, .lst (l.map eStep)] (.tup [ai (Walk h from' t l).1, ai (Walk h from' t l).2.1, ai (Walk h from' t l).2.2]) := by
  refine OKat.of_body (rs := [8, 9, 10]) Tryz.func19 rfl (by decide +kernel) rfl (by simp [Tryz.ntmps19]) ?_
  simp only [Tryz.ntmps19]
  repeat' first
    | apply jA | apply jB | apply jC | apply jD | apply jE | apply jI
    | ((first | (apply jK kO; decide) | apply jR); (simp (disch := omega) only [push_cast, simprocAttr, askedE_one] <;> rfl); all_goals try ((with_reducible intro hI); try first | (cases hI; done) | (simp only [INTS] at hI; try first | (exfalso; omega) | (have hT : True := hI; clear hT hI))))
    | ((apply jV kO; decide); (iterate 2 (simp (disch := omega) only [push_cast, simprocAttr, askedE_one] <;> rfl)); (with_reducible exact askedOne_ok _ _ _ hfit); try first | rfl | (simp (disch := omega) only [push_cast, simprocAttr, askedE_one] <;> rfl))
    | ((apply W.ret3); (iterate 2 (try (simp (disch := omega) only [push_cast, simprocAttr, askedE_one] <;> rfl))))
  all_goals try (show _ = _; rw [Walk_err l (by assumption)]; done)
  all_goals try (show _ = _; rw [Walk_zero l (by assumption), if_pos (by omega)]; done)
  have hr1 := roomE_zero (h := h) (n := from') (t := t) (by assumption)
  have hW : Walk h from' t l = walkL h l from' t := by rw [Walk_zero l (by assumption), if_neg (by omega)]
  rw [hW]
  refine AW.loop (fun n s => ∃ (k : Nat) (fr tt : Int) (rest : List Step), n = rest.length ∧ (l.drop k = rest) ∧ (walkL h rest fr tt = walkL h l from' t) ∧ 1 ≤ s.nx ∧ s.tm 1 = ai fr ∧ s.tm 2 = ai tt ∧ s.tm 4 = .ptr 0 0 0 1 ∧ s.tm 28 = .lst (l.map eStep) ∧ s.tm 29 = ai l.length ∧ s.tm 30 = ai k ∧ Pg.rowAt s.H (0) = some ({ k := 3, es := [eHouse h], ty := 26 })) (l.length) ⟨0, _, _, _, rfl, rfl, rfl, ?_, ?_, ?_, ?_, ?_, ?_, ?_, ?_⟩ ?_
  iterate 8 (first | (simp (disch := omega) only [push_cast, simprocAttr] <;> first | rfl | omega) | omega)
  rintro n s ⟨k, fr, tt, rest, hn, hp0, hp1, hnl, hS⟩
  have hZ : (0 : Nat) ≠ s.nx ∧ s.nx ≠ (0 : Nat) := by omega
  rcases rest with _ | ⟨x, rest⟩
  · have hk := drop_nil hp0
    repeat' first
      | apply jA | apply jB | apply jC | apply jF | apply jI
      | ((first | (apply jK kO; decide) | apply jR); (simp (disch := omega) only [push_cast, simprocAttr, hS, hZ, hk] <;> rfl); all_goals try ((with_reducible intro hI); try first | (cases hI; done) | (simp only [INTS] at hI; try first | (exfalso; omega) | (have hT : True := hI; clear hT hI))))
      | ((apply W.ret3); (iterate 2 (try (simp (disch := omega) only [push_cast, simprocAttr, hS, hZ, hk] <;> rfl))))
    all_goals (show _ = _; rw [← hp1]; rfl)
  · obtain ⟨hk, hg, hd', hl', hm, hx⟩ := drop_cons hp0 eStep []
    by_cases he : (gateAsked h x.way x.back x.at').2 = 0
    · obtain ⟨_, htx, hgo⟩ := askedR_ok (h := h) (way := x.way) (back := x.back) (t := x.at') (by rw [← gateAsked_eq]; exact he)
      rw [← gateAsked_eq] at hgo
      have hgs := hgo.secs
      have hgd := hgo.door
      have hta : 0 ≤ x.at' := htx.1
      have htb : x.at' ≤ 1073741824 := by have := htx.2; omega
      have htc : x.at' ≤ 1073741823 := htx.2
      by_cases hdn : 0 ≤ (gateAsked h x.way x.back x.at').1.door
      · have hdv := (Check_V hr1.1).door hdn hgd.2
        have hdl := hgd.2
        have hdg : (h.doors.map eDoor).getD (gateAsked h x.way x.back x.at').1.door.toNat [] = eDoor (h.door (gateAsked h x.way x.back x.at').1.door) := getD_map eDoor h.doors _ [] ⟨[], []⟩ (by omega)
        repeat' first
          | apply jA | apply jB | apply jC | apply jD | apply jE | apply jI | apply jJ
          | refine W.draw cx_mixed (by decide +kernel) ?_
          | ((first | (apply jK kO; decide) | (apply jL kO; decide; decide) | apply jM kO | (apply jO; rfl; decide; decide) | apply jR); (simp (disch := omega) only [push_cast, simprocAttr, hS, hZ, hk, hg, he, hdn, hdl, hdg] <;> rfl); all_goals try ((with_reducible intro hI); try first | (cases hI; done) | (simp only [INTS] at hI; try first | (exfalso; omega) | (have hT : True := hI; clear hT hI))))
          | ((first | (apply jV kO; decide) | (apply jW kO; decide; decide)); (iterate 2 (simp (disch := omega) only [push_cast, simprocAttr, hS, hZ, hk, hg, he, hdn, hdl, hdg] <;> rfl)); (with_reducible first | exact gateAsked_ok _ _ _ _ hfit | exact next_ok _ _ hdv.ok hta htb); try first | rfl | (simp (disch := omega) only [push_cast, simprocAttr, hS, hZ, hk, hg, he, hdn, hdl, hdg] <;> rfl))
          | ((apply W.ret3); (iterate 2 (try (simp (disch := omega) only [push_cast, simprocAttr, hS, hZ, hk, hg, he, hdn, hdl, hdg] <;> rfl))))
        all_goals first
          | (have hq : stepH h fr tt x = (0, 0, 1) := by unfold stepH; rw [if_pos (by assumption)]
             show _ = _; rw [← hp1, walkL, hq]; first | done | rfl)
          | (have hq : stepH h fr tt x = (0, 0, 4) := by unfold stepH; rw [if_neg (by omega), if_pos (by assumption)]
             show _ = _; rw [← hp1, walkL, hq]; first | done | rfl)
          | (have hq : stepH h fr tt x = (0, 0, 3) := by unfold stepH; rw [if_neg (by omega), if_neg (by omega), if_pos (by omega)]
             show _ = _; rw [← hp1, walkL, hq]; first | done | rfl)
          | (have hq : stepH h fr tt x = (0, 0, 9) := by unfold stepH; rw [if_neg (by omega), if_neg (by omega), if_neg (by omega), if_pos (by omega)]
             show _ = _; rw [← hp1, walkL, hq]; first | done | rfl)
          | (have hq : stepH h fr tt x = (0, 0, 3) := by unfold stepH; rw [if_neg (by omega), if_neg (by omega), if_neg (by omega), if_neg (by omega), if_pos (by omega)]
             show _ = _; rw [← hp1, walkL, hq]; first | done | rfl)
          | (have hq : stepH h fr tt x = ((gateAsked h x.way x.back x.at').1.to, x.at' + (gateAsked h x.way x.back x.at').1.secs, 0) := by unfold stepH; rw [if_neg (by omega), if_neg (by omega), if_neg (by omega), if_neg (by omega), if_neg (by omega)]
             rw [walkL, hq, if_neg (by simp)] at hp1
             (refine ⟨rest.length, ?_, k + 1, _, _, rest, rfl, hd', hp1, ?_, ?_, ?_, ?_, ?_, ?_, ?_, ?_⟩; ((simp only [List.length_cons] at *; omega)); all_goals first | (simp (disch := omega) only [push_cast, simprocAttr, hS, hZ, hg, hk] <;> first | rfl | omega) | omega))
      ·
        repeat' first
          | apply jA | apply jB | apply jC | apply jD | apply jE | apply jI | apply jJ
          | refine W.draw cx_mixed (by decide +kernel) ?_
          | ((first | (apply jK kO; decide) | (apply jL kO; decide; decide) | apply jM kO | (apply jO; rfl; decide; decide) | apply jR); (simp (disch := omega) only [push_cast, simprocAttr, hS, hZ, hk, hg, he, hdn] <;> rfl); all_goals try ((with_reducible intro hI); try first | (cases hI; done) | (simp only [INTS] at hI; try first | (exfalso; omega) | (have hT : True := hI; clear hT hI))))
          | ((apply jV kO; decide); (iterate 2 (simp (disch := omega) only [push_cast, simprocAttr, hS, hZ, hk, hg, he, hdn] <;> rfl)); (with_reducible exact gateAsked_ok _ _ _ _ hfit); try first | rfl | (simp (disch := omega) only [push_cast, simprocAttr, hS, hZ, hk, hg, he, hdn] <;> rfl))
          | ((apply W.ret3); (iterate 2 (try (simp (disch := omega) only [push_cast, simprocAttr, hS, hZ, hk, hg, he, hdn] <;> rfl))))
        all_goals first
          | (have hq : stepH h fr tt x = (0, 0, 1) := by unfold stepH; rw [if_pos (by assumption)]
             show _ = _; rw [← hp1, walkL, hq]; first | done | rfl)
          | (have hq : stepH h fr tt x = (0, 0, 4) := by unfold stepH; rw [if_neg (by omega), if_pos (by assumption)]
             show _ = _; rw [← hp1, walkL, hq]; first | done | rfl)
          | (have hq : stepH h fr tt x = (0, 0, 3) := by unfold stepH; rw [if_neg (by omega), if_neg (by omega), if_pos (by omega)]
             show _ = _; rw [← hp1, walkL, hq]; first | done | rfl)
          | (have hq : stepH h fr tt x = (0, 0, 9) := by unfold stepH; rw [if_neg (by omega), if_neg (by omega), if_neg (by omega), if_pos (by omega)]
             show _ = _; rw [← hp1, walkL, hq]; first | done | rfl)
          | (have hq : stepH h fr tt x = (0, 0, 3) := by unfold stepH; rw [if_neg (by omega), if_neg (by omega), if_neg (by omega), if_neg (by omega), if_pos (by omega)]
             show _ = _; rw [← hp1, walkL, hq]; first | done | rfl)
          | (have hq : stepH h fr tt x = ((gateAsked h x.way x.back x.at').1.to, x.at' + (gateAsked h x.way x.back x.at').1.secs, 0) := by unfold stepH; rw [if_neg (by omega), if_neg (by omega), if_neg (by omega), if_neg (by omega), if_neg (by omega)]
             rw [walkL, hq, if_neg (by simp)] at hp1
             (refine ⟨rest.length, ?_, k + 1, _, _, rest, rfl, hd', hp1, ?_, ?_, ?_, ?_, ?_, ?_, ?_, ?_⟩; ((simp only [List.length_cons] at *; omega)); all_goals first | (simp (disch := omega) only [push_cast, simprocAttr, hS, hZ, hg, hk] <;> first | rfl | omega) | omega))
    ·
      repeat' first
        | apply jA | apply jB | apply jC | apply jD | apply jE | apply jI
        | ((first | (apply jK kO; decide) | apply jM kO | apply jR); (simp (disch := omega) only [push_cast, simprocAttr, hS, hZ, hk, hg, he] <;> rfl); all_goals try ((with_reducible intro hI); try first | (cases hI; done) | (simp only [INTS] at hI; try first | (exfalso; omega) | (have hT : True := hI; clear hT hI))))
        | ((apply jV kO; decide); (iterate 2 (simp (disch := omega) only [push_cast, simprocAttr, hS, hZ, hk, hg, he] <;> rfl)); (with_reducible exact gateAsked_ok _ _ _ _ hfit); try first | rfl | (simp (disch := omega) only [push_cast, simprocAttr, hS, hZ, hk, hg, he] <;> rfl))
        | ((apply W.ret3); (iterate 2 (try (simp (disch := omega) only [push_cast, simprocAttr, hS, hZ, hk, hg, he] <;> rfl))))
      all_goals
        (have hq : stepH h fr tt x = (0, 0, 1) := by unfold stepH; rw [if_pos (by assumption)]
         show _ = _; rw [← hp1, walkL, hq]; first | done | rfl)
end Go.Proofs.Hs

namespace Go.Proofs.Hs
open Go Go.Pg Go.Proofs Go.Proofs.Yt
theorem getD_eInt (l : List Int) (k : Nat) (h : k < l.length) : (l.map eInt).getD k [] = [ai (l.getD k 0)] := getD_map eInt l k [] 0 h
theorem get_eInt (l : List Int) (k : Nat) (h : k < l.length) : (l.map eInt)[k]? = some [ai (l.getD k 0)] := by
  rw [List.getElem?_map, (by rw [List.getD_eq_getElem?_getD, List.getElem?_eq_getElem h]; rfl : l[k]? = some (l.getD k 0))]; rfl
theorem getD_eGate (l : List Gate) (k : Nat) (h : k < l.length) : (l.map eGate).getD k [] = eGate (l.getD k .zero) := getD_map eGate l k [] .zero h
theorem pure_eInt (l : List Int) : (l.map eInt).all pureL = true := pure_map eInt (fun _ => rfl) l
theorem take_eInt {row : List Int} {n : Nat} (h : row.length = n) : (row.map eInt).take n = row.map eInt := by rw [List.take_of_length_le (by simp [h])]
theorem take_eGate {l : List Gate} {n : Nat} (h : l.length = n) : (l.map eGate).take n = l.map eGate := by rw [List.take_of_length_le (by simp [h])]
theorem viewLL_rooms (H : Nat → Option AO) (l : List Room) : viewLL H (l.map eRoom) = some (l.map eRoom) := viewLL_map H eRoom (fun _ => rfl) l
theorem viewLL_ways (H : Nat → Option AO) (l : List Way) : viewLL H (l.map eWay) = some (l.map eWay) := viewLL_map H eWay (fun _ => rfl) l
theorem viewLL_spans (H : Nat → Option AO) (l : List Span) : viewLL H (l.map eSpan) = some (l.map eSpan) := viewLL_map H eSpan (fun _ => rfl) l
theorem pure_spans (l : List Span) : (l.map eSpan).all pureL = true := pure_map eSpan (fun _ => rfl) l
theorem pure_rooms (l : List Room) : (l.map eRoom).all pureL = true := pure_map eRoom (fun _ => rfl) l
theorem pure_ways (l : List Way) : (l.map eWay).all pureL = true := pure_map eWay (fun _ => rfl) l
theorem pure_doors (l : List Door) : (l.map eDoor).all pureL = true := pure_map eDoor (fun _ => rfl) l
theorem take_mapLen {α : Type} (f : α → List AV) (l : List α) (n : Nat) (h : n = l.length) : (l.map f).take n = l.map f := by rw [List.take_of_length_le (by simp [h])]
theorem rowAt_frzG (H : Nat → Option AO) (ids : List Nat) (j : Nat) : Pg.rowAt (frz' H ids) j = if j ∈ ids then (Pg.rowAt H j).map (fun r => { r with fro := true }) else Pg.rowAt H j := by
  unfold frz' frz Pg.rowAt
  cases ids with
  | nil => simp
  | cons i ids =>
    simp only [List.isEmpty_cons, Bool.false_eq_true, if_false]
    by_cases h : j ∈ i :: ids
    · simp only [h, if_true]
      cases hh : H j with
      | none => rfl
      | some o => cases o <;> rfl
    · simp only [h, if_false]
theorem isEmpty_map {α β : Type} (f : α → β) (l : List α) : (l.map f).isEmpty = l.isEmpty := by cases l <;> rfl
theorem lo_len {α : Type} (l : List α) : (if l.isEmpty = true then 0 else l.length) = l.length := by cases l <;> rfl
theorem lo_gen {α : Type} (l : List α) (a b : Nat) (h : l.length = 0 → a = b) : (if l.isEmpty = true then a else b) = b := by
  split
  · rename_i he; exact h (by rw [List.isEmpty_iff.1 he]; rfl)
  · rfl
theorem maxNx (a : Nat) : max a (a + 1) = a + 1 := by omega
attribute [push_cast] maxNx get_eInt getD_eInt getD_eGate List.map_set List.length_set List.drop_zero Nat.zero_le pure_eInt take_eInt take_eGate pure_gate viewLL_rooms viewLL_ways viewLL_spans isEmpty_map lo_len lo_gen pure_spans pure_rooms pure_ways pure_doors take_mapLen rowAt_frzG rowAt_mask List.mem_cons List.not_mem_nil or_false or_self Nat.add_assoc List.length_append List.map_append List.append_assoc List.isEmpty_cons List.isEmpty_nil List.map_cons List.map_nil eGate
end Go.Proofs.Hs

namespace Go.Proofs.Hs
open Go Go.Pg Go.Proofs Go.Proofs.Yt
def finalL (t day : Int) : List Span → Option Int
  | [] => none
  | x :: rest => if 0 ≤ day then (if day + x.lo ≤ min t (day + x.hi) then some (min t (day + x.hi)) else finalL t day rest) else none
def finalD (t : Int) (hours : List Span) : List Int → Option Int
  | [] => none
  | day :: ds => match finalL t day hours.reverse with | some n => some n | none => finalD t hours ds
def final (d : Door) (t : Int) : Option Int := finalD t d.hours [t / 86400 * 86400, (t / 86400 - 1) * 86400]
theorem final_ok (d : Door) (t : Int) (hd : d.OK) (h0 : 0 ≤ t) (h1 : t ≤ 1073741824) : OKv cx 73 [.agg (eDoor d), ai t] (eOpt (final d t)) := by
  have hlen := hd.nh
  refine OKat.of_body (rs := [4, 5]) Tryz.func73 rfl (by decide +kernel) rfl (by simp [Tryz.ntmps73]) ?_
  simp only [Tryz.ntmps73]
  repeat' first
    | apply jA | apply jB | apply jD | apply jI
    | ((apply jK kO; decide); (simp (disch := omega) only [push_cast, simprocAttr, Int.reduceEq] <;> rfl))
  refine AW.loop (fun n s => ∃ (j : Nat) (ds : List Int), n = ds.length ∧ ([t / 86400 * 86400, (t / 86400 - 1) * 86400].drop j = ds) ∧ (finalD t d.hours ds = final d t) ∧ 1 ≤ s.nx ∧ s.tm 1 = ai t ∧ s.tm 2 = .ptr 0 0 0 1 ∧ s.tm 18 = .agg [ai (t / 86400 * 86400), ai ((t / 86400 - 1) * 86400)] ∧ s.tm 19 = ai j ∧ Pg.rowAt s.H (0) = some ({ k := 2, es := [eDoor d], ty := 129 })) (2) ⟨0, _, rfl, rfl, rfl, ?_, ?_, ?_, ?_, ?_, ?_⟩ ?_
  iterate 6 (first | (simp (disch := omega) only [push_cast, simprocAttr, Int.reduceEq] <;> first | rfl | omega) | omega)
  rintro n s ⟨j, ds, hn, hp0, hp1, hnl, hS⟩
  have hZ : (0 : Nat) ≠ s.nx ∧ s.nx ≠ (0 : Nat) := by omega
  rcases ds with _ | ⟨y, ds⟩
  · have hj : ¬ ((j : Int) < 2) := by have := drop_nil hp0; simpa using this
    repeat' first
      | apply jA | apply jB | apply jC | apply jF | apply jI
      | ((first | (apply jK kO; decide) | apply jR); (simp (disch := omega) only [push_cast, simprocAttr, hS, hZ, hj] <;> rfl); all_goals try ((with_reducible intro hI); try first | (cases hI; done) | (simp only [INTS] at hI; try first | (exfalso; omega) | (have hT : True := hI; clear hT hI))))
      | ((apply W.ret2); (iterate 2 (try (simp (disch := omega) only [push_cast, simprocAttr, hS, hZ, hj] <;> rfl))))
    all_goals (show _ = _; rw [← hp1]; rfl)
  · obtain ⟨hj', _, hdj, hlj, hmj, hxj⟩ := drop_cons hp0 ai .junk
    have hj : (j : Int) < 2 := by simpa using hj'
    have hj2 : (j : Int) < ((2 : Nat) : Int) := hj
    have hy : -86400 ≤ y ∧ y ≤ 1073913600 := by simp at hmj; omega
    simp only [List.map_cons, List.map_nil] at hxj
    repeat' first
      | apply jA | apply jB | apply jD | apply jE | apply jI
      | ((first | (apply jK kO; decide) | apply jR); (simp (disch := omega) only [push_cast, simprocAttr, hS, hZ, Nat.mul_one, hj, hj2, hxj] <;> rfl); all_goals try ((with_reducible intro hI); try first | (cases hI; done) | (simp only [INTS] at hI; try first | (exfalso; omega) | (have hT : True := hI; clear hT hI))))
    refine AW.loop (fun n s => ∃ (k : Nat) (rest : List Span), n = rest.length ∧ (d.hours.reverse.drop k = rest) ∧ ((match finalL t y rest with | some n => some n | none => finalD t d.hours ds) = final d t) ∧ (rest.length ≤ 8) ∧ 1 ≤ s.nx ∧ s.tm 1 = ai t ∧ s.tm 2 = .ptr 0 0 0 1 ∧ s.tm 7 = ai y ∧ s.tm 8 = ai ((rest.length : Int) - 1) ∧ s.tm 18 = .agg [ai (t / 86400 * 86400), ai ((t / 86400 - 1) * 86400)] ∧ s.tm 19 = ai j ∧ Pg.rowAt s.H (0) = some ({ k := 2, es := [eDoor d], ty := 129 })) (d.hours.length) ⟨0, d.hours.reverse, (by simp), rfl, hp1, (by simpa using hlen), ?_, ?_, ?_, ?_, ?_, ?_, ?_, ?_⟩ ?_
    iterate 8 (first | (simp (disch := omega) only [push_cast, simprocAttr, hS, hZ, Nat.mul_one, hj, hj2, hxj, List.length_reverse] <;> first | rfl | omega) | omega)
    rintro n2 s2 ⟨k2, rest2, hn2, hp02, hp12, hp22, hnl2, hS2⟩
    have hZ2 : (0 : Nat) ≠ s2.nx ∧ s2.nx ≠ (0 : Nat) := by omega
    rcases rest2 with _ | ⟨x2, rest2⟩
    · have hk2 : ¬ ((0 : Int) ≤ ((([] : List Span).length : Int) - 1)) := by simp
      simp only [List.length_nil] at hk2 hS2
      repeat' first
        | apply jA | apply jB | apply jF | apply jI
        | ((first | (apply jK kO; decide) | (apply jN; rfl; decide) | apply jR); (simp (disch := omega) only [push_cast, simprocAttr, hS2, hZ2, hk2] <;> rfl); all_goals try ((with_reducible intro hI); try first | (cases hI; done) | (simp only [INTS] at hI; try first | (exfalso; omega) | (have hT : True := hI; clear hT hI))))
      all_goals
        (have hp1' : finalD t d.hours ds = final d t := hp12
         (refine ⟨ds.length, ?_, j + 1, ds, rfl, hdj, hp1', ?_, ?_, ?_, ?_, ?_, ?_⟩; ((simp only [List.length_cons] at *; omega)); all_goals first | (simp (disch := omega) only [push_cast, simprocAttr, hS2, hZ2] <;> first | rfl | omega) | omega))
    · obtain ⟨hk2, hg2, hd'2, hl'2, hm2⟩ := drop_rev hp02 eSpan []
      have hb := hd.hours _ hm2
      have he : (((x2 :: rest2).length : Nat) : Int) - 1 = (rest2.length : Int) := by simp
      rw [he] at hS2
      repeat' first
        | apply jA | apply jB | apply jC | apply jD | apply jE | apply jF | apply jI
        | ((first | (apply jK kO; decide) | apply jM kO | (apply jN; rfl; decide) | apply jR); (simp (disch := omega) only [push_cast, simprocAttr, hS2, hZ2, hk2, hg2] <;> rfl); all_goals try ((with_reducible intro hI); try first | (cases hI; done) | (simp only [INTS] at hI; try first | (exfalso; omega) | (have hT : True := hI; clear hT hI))))
        | ((apply W.ret2); (iterate 2 (try (simp (disch := omega) only [push_cast, simprocAttr, hS2, hZ2, hk2, hg2] <;> rfl))))
      all_goals first
        | (show _ = _; rw [← hp12, finalL, if_pos (by omega), if_pos (by first | omega | (simp_all; done))]; rfl)
        | (have hp1' : finalD t d.hours ds = final d t := by rw [← hp12, finalL, if_neg (by omega)]
           (refine ⟨ds.length, ?_, j + 1, ds, rfl, hdj, hp1', ?_, ?_, ?_, ?_, ?_, ?_⟩; ((simp only [List.length_cons] at *; omega)); all_goals first | (simp (disch := omega) only [push_cast, simprocAttr, hS2, hZ2] <;> first | rfl | omega) | omega))
        | (rw [finalL, if_pos (by omega), if_neg (by first | omega | (simp_all; omega) | (simp_all; done))] at hp12
           (refine ⟨rest2.length, ?_, k2 + 1, rest2, rfl, hd'2, hp12, (by simp only [List.length_cons] at hp22; omega), ?_, ?_, ?_, ?_, ?_, ?_, ?_, ?_⟩; ((simp only [List.length_cons] at *; omega)); all_goals first | (simp (disch := omega) only [push_cast, simprocAttr, hS2, hZ2, hg2, hk2] <;> first | rfl | omega) | omega))
def lastL (d : Door) : Nat → Int → Int
  | 0, _ => -1
  | f + 1, t => if 0 ≤ t then (if (final d t).isSome = true then (if (over d.shut ((final d t).getD 0)).2 = true then lastL d f ((over d.shut ((final d t).getD 0)).1.lo - 1) else (final d t).getD 0) else -1) else -1
def last (d : Door) (t : Int) : Int := lastL d 17 t
theorem last_ok (d : Door) (t : Int) (hd : d.OK) (h0 : -1 ≤ t) (h1 : t ≤ 1073741824) : OKv cx 55 [.agg (eDoor d), ai t] (ai (last d t)) := by
  have hlen := hd.ns
  refine OKat.of_body (rs := [4]) Tryz.func55 rfl (by decide +kernel) rfl (by simp [Tryz.ntmps55]) ?_
  simp only [Tryz.ntmps55]
  repeat' first
    | apply jA | apply jB | apply jD | apply jI
    | ((apply jK kO; decide); (simp (disch := omega) only [push_cast, simprocAttr] <;> rfl))
  refine AW.loop (fun n s => ∃ (f : Nat) (u : Int) (i : Int), n = f ∧ (i + f = 17) ∧ (0 ≤ i ∧ -1 ≤ u ∧ u ≤ 1073741824) ∧ (lastL d f u = last d t) ∧ 1 ≤ s.nx ∧ s.tm 1 = ai u ∧ s.tm 2 = .ptr 0 0 0 1 ∧ s.tm 5 = ai i ∧ Pg.rowAt s.H (0) = some ({ k := 2, es := [eDoor d], ty := 129 })) (17) ⟨17, t, 0, rfl, by omega, by omega, rfl, ?_, ?_, ?_, ?_, ?_⟩ ?_
  iterate 5 (first | (simp (disch := omega) only [push_cast, simprocAttr] <;> first | rfl | omega) | omega)
  rintro n s ⟨f, u, i, hn, hp0, hp1, hp2, hnl, hS⟩
  have hZ : (0 : Nat) ≠ s.nx ∧ s.nx ≠ (0 : Nat) := by omega
  rcases f with _ | f
  · have hi : ¬ (i ≤ 16) := by omega
    repeat' first
      | apply jA | apply jB | apply jC | apply jF | apply jI
      | ((first | (apply jK kO; decide) | (apply jN; rfl; decide) | apply jR); (simp (disch := omega) only [push_cast, simprocAttr, hS, hZ, hi] <;> rfl); all_goals try ((with_reducible intro hI); try first | (cases hI; done) | (simp only [INTS] at hI; try first | (exfalso; omega) | (have hT : True := hI; clear hT hI))))
      | ((apply W.ret1); (iterate 2 (try (simp (disch := omega) only [push_cast, simprocAttr, hS, hZ, hi] <;> rfl))))
    all_goals (show _ = _; rw [← hp2]; rfl)
  · have hi : i ≤ 16 := by omega
    repeat' first
      | apply jA | apply jB | apply jC | apply jD | apply jE | apply jF | apply jI
      | ((first | (apply jK kO; decide) | apply jM kO | (apply jN; rfl; decide) | apply jR); (simp (disch := omega) only [push_cast, simprocAttr, hS, hZ, hi] <;> rfl); all_goals try ((with_reducible intro hI); try first | (cases hI; done) | (simp only [INTS] at hI; try first | (exfalso; omega) | (have hT : True := hI; clear hT hI))))
      | ((apply jV kO; decide); (iterate 2 (simp (disch := omega) only [push_cast, simprocAttr, hS, hZ, hi] <;> rfl)); (with_reducible first | exact final_ok _ _ hd (by omega) (by omega) | exact over_ok _ _ (by omega)); try first | rfl | (simp (disch := omega) only [push_cast, simprocAttr, hS, hZ, hi] <;> rfl))
      | ((apply W.ret1); (iterate 2 (try (simp (disch := omega) only [push_cast, simprocAttr, hS, hZ, hi] <;> rfl))))
    all_goals first
      | (show _ = _; rw [← hp2]; simp [lastL, *]; done)
      | (show _ = _; rw [← hp2, lastL, if_neg (by omega)]; done)
      | (have ho := over_mem d.shut ((final d u).getD 0) (by assumption)
         have hb := hd.shut _ ho.1
         have hp2' : lastL d f ((over d.shut ((final d u).getD 0)).1.lo - 1) = last d t := by rw [← hp2]; simp [lastL, *]
         (refine ⟨f, ?_, f, _, i + 1, rfl, (by omega), (by omega), hp2', ?_, ?_, ?_, ?_, ?_⟩; (omega); all_goals first | (simp (disch := omega) only [push_cast, simprocAttr, hS, hZ, hi] <;> first | rfl | omega) | omega))
end Go.Proofs.Hs
