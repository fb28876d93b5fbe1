/-
  Contracts of functions, proved by going through their code. No conditions.
-/
import Derived.Test.YtbeiiipphicdlaaGreatDoorTak
import Derived.Test.YtbeiiipphicdlaaGreatDoorTam
import Derived.Test.YtbeiiipphicdlaaGreatDoorTao
set_option linter.unusedVariables false
set_option linter.unusedSimpArgs false
set_option maxHeartbeats 8000000
set_option maxRecDepth 10000
namespace Go.Proofs.Hz
open Go Go.Pg Go.Proofs
theorem asked_ok (h : House) (rs ts : List Int) (hfit : h.Fit) (hrs : rs.length ≤ 1099511627776) (hts : ts.length ≤ 1099511627776) : OKv cx 36 [.agg (eHouse h), lInt rs, lInt ts] (ai (askedE h rs ts)) := by
  refine OKat.of_body (rs := [6]) Tryz.func36 rfl (by decide +kernel) rfl (by simp [Tryz.ntmps36]) ?_
  simp only [Tryz.ntmps36]
  repeat' first
    | apply AW.seq | apply AW.region | apply AW.ret | apply AW.block | apply AW.skip | apply AW.exit | apply AW.scope | apply AW.label | apply AWL.nil
    | ((first | (apply W.step cx_ok; decide) | apply AW.cond); (simp (disch := omega) only [push_cast, simprocAttr] <;> rfl); all_goals try ((with_reducible intro hI); try first | (cases hI; done) | (simp only [INTS] at hI; try first | (exfalso; omega) | (have hT : True := hI; clear hT hI))))
    | ((apply W.callv cx_ok; decide); (iterate 2 (simp (disch := omega) only [push_cast, simprocAttr] <;> rfl)); (with_reducible first | exact Check_ok _ hfit); try first | rfl | (simp (disch := omega) only [push_cast, simprocAttr] <;> rfl))
    | ((first | apply W.ret1 | apply W.end1); (iterate 2 (try (simp (disch := omega) only [push_cast, simprocAttr] <;> rfl))))
  all_goals try (show _ = _; rw [askedE, if_pos (by assumption)]; done)
  have hE : askedE h rs ts = if rs.all (roomB h) = true then (if ts.all timeB = true then 0 else 1) else 1 := if_neg (by simp [*])
  refine AW.loop (fun n s => ∃ (k : Nat) (rest : List Int), n = rest.length ∧ (rs.drop k = rest) ∧ (rest.all (roomB h) = rs.all (roomB h)) ∧ 1 ≤ s.nx ∧ s.tm 2 = lInt ts ∧ s.tm 3 = .ptr 0 0 0 1 ∧ s.tm 21 = lInt rs ∧ s.tm 22 = ai rs.length ∧ s.tm 23 = ai k ∧ Pg.rowAt s.H (0) = some ({ k := 3, es := [eHouse h], ty := 26 })) (rs.length) ⟨0, _, rfl, rfl, rfl, ?_, ?_, ?_, ?_, ?_, ?_, ?_⟩ ?_
  iterate 7 (first | (simp (disch := omega) only [push_cast, simprocAttr] <;> first | rfl | omega) | omega)
  rintro n s ⟨k, rest, hn, hp0, hp1, hnl, hS⟩
  have hZ : (0 : Nat) ≠ s.nx ∧ s.nx ≠ (0 : Nat) := by omega
  rcases rest with _ | ⟨x, rest⟩
  · have hk := drop_nil hp0
    repeat' first
      | apply AW.seq | apply AW.region | apply AW.ret | apply AW.block | apply AW.skip | apply AW.exit | apply AW.scope | apply AW.label | apply AWL.nil
      | ((first | (apply W.step cx_ok; decide) | apply AW.cond); (simp (disch := omega) only [push_cast, simprocAttr, hS, hZ, hk] <;> rfl); all_goals try ((with_reducible intro hI); try first | (cases hI; done) | (simp only [INTS] at hI; try first | (exfalso; omega) | (have hT : True := hI; clear hT hI))))
      | ((apply W.callv cx_ok; decide); (iterate 2 (simp (disch := omega) only [push_cast, simprocAttr, hS, hZ, hk] <;> rfl)); (with_reducible first | exact index_ok _ _); try first | rfl | (simp (disch := omega) only [push_cast, simprocAttr, hS, hZ, hk] <;> rfl))
      | ((first | apply W.ret1 | apply W.end1); (iterate 2 (try (simp (disch := omega) only [push_cast, simprocAttr, hS, hZ, hk] <;> rfl))))
    have hE1 : askedE h rs ts = if ts.all timeB = true then 0 else 1 := by rw [hE, ← hp1]; rfl
    refine AW.loop (fun n s => ∃ (k : Nat) (rest : List Int), n = rest.length ∧ (ts.drop k = rest) ∧ (rest.all timeB = ts.all timeB) ∧ 1 ≤ s.nx ∧ s.tm 3 = .ptr 0 0 0 1 ∧ s.tm 34 = lInt ts ∧ s.tm 35 = ai ts.length ∧ s.tm 36 = ai k ∧ Pg.rowAt s.H (0) = some ({ k := 3, es := [eHouse h], ty := 26 })) (ts.length) ⟨0, _, rfl, rfl, rfl, ?_, ?_, ?_, ?_, ?_, ?_⟩ ?_
    iterate 6 (first | (simp (disch := omega) only [push_cast, simprocAttr, hS, hZ, hk] <;> first | rfl | omega) | omega)
    rintro n2 s2 ⟨k2, rest2, hn2, hp02, hp12, hnl2, hS2⟩
    have hZ2 : (0 : Nat) ≠ s2.nx ∧ s2.nx ≠ (0 : Nat) := by omega
    rcases rest2 with _ | ⟨x2, rest2⟩
    · have hk2 := drop_nil hp02
      repeat' first
        | apply AW.seq | apply AW.region | apply AW.ret | apply AW.block | apply AW.skip | apply AW.exit | apply AW.scope | apply AW.label | apply AWL.nil
        | ((first | (apply W.step cx_ok; decide) | apply AW.cond); (simp (disch := omega) only [push_cast, simprocAttr, hS2, hZ2, hk2] <;> rfl); all_goals try ((with_reducible intro hI); try first | (cases hI; done) | (simp only [INTS] at hI; try first | (exfalso; omega) | (have hT : True := hI; clear hT hI))))
        | ((apply W.callv cx_ok; decide); (iterate 2 (simp (disch := omega) only [push_cast, simprocAttr, hS2, hZ2, hk2] <;> rfl)); (with_reducible first | exact time_ok _); try first | rfl | (simp (disch := omega) only [push_cast, simprocAttr, hS2, hZ2, hk2] <;> rfl))
        | ((first | apply W.ret1 | apply W.end1); (iterate 2 (try (simp (disch := omega) only [push_cast, simprocAttr, hS2, hZ2, hk2] <;> rfl))))
      all_goals (show _ = _; rw [hE1, ← hp12]; rfl)
    · obtain ⟨hk2, hg2, hd'2, hl'2, hm2, hx2⟩ := drop_cons hp02 eInt []
      repeat' first
        | apply AW.seq | apply AW.region | apply AW.ret | apply AW.block | apply AW.skip | apply AW.exit | apply AW.scope | apply AW.label | apply AWL.nil
        | ((first | (apply W.step cx_ok; decide) | apply AW.cond); (simp (disch := omega) only [push_cast, simprocAttr, hS2, hZ2, hk2, hg2] <;> rfl); all_goals try ((with_reducible intro hI); try first | (cases hI; done) | (simp only [INTS] at hI; try first | (exfalso; omega) | (have hT : True := hI; clear hT hI))))
        | ((apply W.callv cx_ok; decide); (iterate 2 (simp (disch := omega) only [push_cast, simprocAttr, hS2, hZ2, hk2, hg2] <;> rfl)); (with_reducible first | exact time_ok _); try first | rfl | (simp (disch := omega) only [push_cast, simprocAttr, hS2, hZ2, hk2, hg2] <;> rfl))
        | ((first | apply W.ret1 | apply W.end1); (iterate 2 (try (simp (disch := omega) only [push_cast, simprocAttr, hS2, hZ2, hk2, hg2] <;> rfl))))
      all_goals first
        | (have hq : timeB x2 = false := by simp only [timeB, Bool.and_eq_false_iff, decide_eq_false_iff_not]; omega
           show _ = _; rw [hE1, ← hp12, List.all_cons, hq]; rfl)
        | (have hq : timeB x2 = true := by simp only [timeB, Bool.and_eq_true, decide_eq_true_eq]; omega
           rw [List.all_cons, hq, Bool.true_and] at hp12
           (refine ⟨rest2.length, ?_, k2 + 1, rest2, rfl, hd'2, hp12, ?_, ?_, ?_, ?_, ?_, ?_⟩; ((simp only [List.length_cons] at *; omega)); all_goals first | (simp (disch := omega) only [push_cast, simprocAttr, hS2, hZ2, hg2, hk2] <;> first | rfl | omega) | omega))
  · obtain ⟨hk, hg, hd', hl', hm, hx⟩ := drop_cons hp0 eInt []
    repeat' first
      | apply AW.seq | apply AW.region | apply AW.ret | apply AW.block | apply AW.skip | apply AW.exit | apply AW.scope | apply AW.label | apply AWL.nil
      | ((first | (apply W.step cx_ok; decide) | apply AW.cond); (simp (disch := omega) only [push_cast, simprocAttr, hS, hZ, hk, hg] <;> rfl); all_goals try ((with_reducible intro hI); try first | (cases hI; done) | (simp only [INTS] at hI; try first | (exfalso; omega) | (have hT : True := hI; clear hT hI))))
      | ((apply W.callv cx_ok; decide); (iterate 2 (simp (disch := omega) only [push_cast, simprocAttr, hS, hZ, hk, hg] <;> rfl)); (with_reducible first | exact index_ok _ _); try first | rfl | (simp (disch := omega) only [push_cast, simprocAttr, hS, hZ, hk, hg] <;> rfl))
      | ((first | apply W.ret1 | apply W.end1); (iterate 2 (try (simp (disch := omega) only [push_cast, simprocAttr, hS, hZ, hk, hg] <;> rfl))))
    all_goals first
      | (have hq : roomB h x = false := by simp only [roomB, Bool.and_eq_false_iff, decide_eq_false_iff_not]; omega
         show _ = _; rw [hE, ← hp1, List.all_cons, hq]; rfl)
      | (have hq : roomB h x = true := by simp only [roomB, Bool.and_eq_true, decide_eq_true_eq]; omega
         rw [List.all_cons, hq, Bool.true_and] at hp1
         (refine ⟨rest.length, ?_, k + 1, rest, rfl, hd', hp1, ?_, ?_, ?_, ?_, ?_, ?_, ?_⟩; ((simp only [List.length_cons] at *; omega)); all_goals first | (simp (disch := omega) only [push_cast, simprocAttr, hS, hZ, hg, hk] <;> first | rfl | omega) | omega))
theorem gates_ok (h : House) (hw : h.ways.length ≤ 1048576) : OKv cx 38 [.agg (eHouse h)] (.lst ((gates h).map eGate)) := by
  refine OKat.of_body (rs := [2]) Tryz.func38 rfl (by decide +kernel) rfl (by simp [Tryz.ntmps38]) ?_
  simp only [Tryz.ntmps38]
  repeat' first
    | apply AW.seq | apply AW.region | apply AW.ret | apply AW.block | apply AW.skip | apply AW.exit | apply AW.scope | apply AW.label | apply AWL.nil
    | ((first | (apply W.step cx_ok; decide) | apply W.store cx_ok | apply AW.cond); (simp (disch := omega) only [push_cast, simprocAttr] <;> rfl); all_goals try ((with_reducible intro hI); try first | (cases hI; done) | (simp only [INTS] at hI; try first | (exfalso; omega) | (have hT : True := hI; clear hT hI))))
    | ((first | apply W.ret1 | apply W.end1); (iterate 2 (try (simp (disch := omega) only [push_cast, simprocAttr] <;> rfl))))
  refine AW.adopt 3 6 94 ?_ ?_
  · simp only [push_cast, simprocAttr]
  refine AW.loop (fun n s => ∃ (k : Nat) (out : List Gate) (rest : List Way), n = rest.length ∧ (h.ways.drop k = rest) ∧ (out ++ gatesL k rest = gates h) ∧ (out.length ≤ 2 * k) ∧ 2 ≤ s.nx ∧ s.tm 1 = .ptr 0 0 0 1 ∧ s.tm 3 = .ref 1 0 out.length ∧ s.tm 7 = .lst (h.ways.map eWay) ∧ s.tm 8 = ai h.ways.length ∧ s.tm 9 = ai k ∧ Pg.rowAt s.H (0) = some ({ k := 3, es := [eHouse h], ty := 26 }) ∧ Pg.rowAt s.H (1) = some ({ k := 6, es := out.map eGate, ty := 94, lo := out.length })) (h.ways.length) ⟨0, [], _, rfl, rfl, rfl, Nat.zero_le _, ?_, ?_, ?_, ?_, ?_, ?_, ?_, ?_⟩ ?_
  iterate 8 (first | (simp (disch := omega) only [push_cast, simprocAttr] <;> first | rfl | omega) | omega)
  rintro n s ⟨k, out, rest, hn, hp0, hp1, hp2, hnl, hS⟩
  have hZ : (0 : Nat) ≠ s.nx ∧ s.nx ≠ (0 : Nat) ∧ (1 : Nat) ≠ s.nx ∧ s.nx ≠ (1 : Nat) := by omega
  rcases rest with _ | ⟨x, rest⟩
  · have hk := drop_nil hp0
    repeat' first
      | apply AW.seq | apply AW.region | apply AW.ret | apply AW.block | apply AW.skip | apply AW.exit | apply AW.scope | apply AW.label | apply AWL.nil
      | ((first | (apply W.step cx_ok; decide) | apply W.store cx_ok | apply AW.cond); (simp (disch := omega) only [push_cast, simprocAttr, hS, hZ, hk, List.length_append, List.map_append, List.append_assoc, List.length_cons, List.length_nil, List.isEmpty_cons, List.isEmpty_nil, take_map_all, pure_gate] <;> rfl); all_goals try ((with_reducible intro hI); try first | (cases hI; done) | (simp only [INTS] at hI; try first | (exfalso; omega) | (have hT : True := hI; clear hT hI))))
      | (apply W.append cx_ok; decide; rfl; rfl; rfl; decide; (iterate 3 (simp (disch := omega) only [push_cast, simprocAttr, hS, hZ, hk, List.length_append, List.map_append, List.append_assoc, List.length_cons, List.length_nil, List.isEmpty_cons, List.isEmpty_nil, take_map_all, pure_gate] <;> rfl)); simp; (rfl); ((try dsimp only); (try simp only [List.length_map, List.length_append, List.length_cons, List.length_nil]); omega); ((try dsimp only); (try simp only [List.length_map, List.length_append, List.length_cons, List.length_nil]); omega))
      | ((first | apply W.ret1 | apply W.end1); (iterate 2 (try (simp (disch := omega) only [push_cast, simprocAttr, hS, hZ, hk, List.length_append, List.map_append, List.append_assoc, List.length_cons, List.length_nil, List.isEmpty_cons, List.isEmpty_nil, take_map_all, pure_gate] <;> rfl))))
    have ho : out = gates h := by simpa [gatesL] using hp1
    all_goals (show _ = _; rw [ho])
  · obtain ⟨hk, hg, hd', hl', hm, hx⟩ := drop_cons hp0 eWay []
    repeat' first
      | apply AW.seq | apply AW.region | apply AW.ret | apply AW.block | apply AW.skip | apply AW.exit | apply AW.scope | apply AW.label | apply AWL.nil
      | ((first | (apply W.step cx_ok; decide) | apply W.store cx_ok | apply AW.cond); (simp (disch := omega) only [push_cast, simprocAttr, hS, hZ, hk, hg, List.length_append, List.map_append, List.append_assoc, List.length_cons, List.length_nil, List.isEmpty_cons, List.isEmpty_nil, take_map_all, pure_gate] <;> rfl); all_goals try ((with_reducible intro hI); try first | (cases hI; done) | (simp only [INTS] at hI; try first | (exfalso; omega) | (have hT : True := hI; clear hT hI))))
      | (apply W.append cx_ok; decide; rfl; rfl; rfl; decide; (iterate 3 (simp (disch := omega) only [push_cast, simprocAttr, hS, hZ, hk, hg, List.length_append, List.map_append, List.append_assoc, List.length_cons, List.length_nil, List.isEmpty_cons, List.isEmpty_nil, take_map_all, pure_gate] <;> rfl)); simp; (rfl); ((try dsimp only); (try simp only [List.length_map, List.length_append, List.length_cons, List.length_nil]); omega); ((try dsimp only); (try simp only [List.length_map, List.length_append, List.length_cons, List.length_nil]); omega))
      | ((first | apply W.ret1 | apply W.end1); (iterate 2 (try (simp (disch := omega) only [push_cast, simprocAttr, hS, hZ, hk, hg, List.length_append, List.map_append, List.append_assoc, List.length_cons, List.length_nil, List.isEmpty_cons, List.isEmpty_nil, take_map_all, pure_gate] <;> rfl))))
    all_goals first
      | (rw [gatesL, if_pos (by omega)] at hp1
         (refine ⟨rest.length, ?_, k + 1, out ++ [⟨(k : Int), false, x.a, x.b, x.secs, x.door⟩, ⟨(k : Int), true, x.b, x.a, x.back, x.door⟩], rest, rfl, hd', (by simpa using hp1), (by simp; omega), ?_, ?_, ?_, ?_, ?_, ?_, ?_, ?_⟩; ((simp only [List.length_cons] at *; omega)); all_goals first | (simp (disch := omega) only [push_cast, simprocAttr, hS, hZ, hg, hk, List.length_append, List.map_append, List.append_assoc, List.length_cons, List.length_nil, List.isEmpty_cons, List.isEmpty_nil] <;> first | rfl | omega) | omega))
      | (rw [gatesL, if_neg (by omega)] at hp1
         (refine ⟨rest.length, ?_, k + 1, out ++ [⟨(k : Int), false, x.a, x.b, x.secs, x.door⟩], rest, rfl, hd', (by simpa using hp1), (by simp; omega), ?_, ?_, ?_, ?_, ?_, ?_, ?_, ?_⟩; ((simp only [List.length_cons] at *; omega)); all_goals first | (simp (disch := omega) only [push_cast, simprocAttr, hS, hZ, hg, hk, List.length_append, List.map_append, List.append_assoc, List.length_cons, List.length_nil, List.isEmpty_cons, List.isEmpty_nil] <;> first | rfl | omega) | omega))
theorem gateAsked1_ok (g : Gate) (way : Int) (back : Bool) : OKv cx 68 [.agg (eGate g), .iptr [ai way] 0, .iptr [ab back] 0] (ab (isG way back g)) := by
  refine OKat.of_body (rs := [4]) Tryz.func68 rfl (by decide +kernel) rfl (by simp [Tryz.ntmps68]) ?_
  simp only [Tryz.ntmps68]
  repeat' first
    | apply AW.seq | apply AW.region | apply AW.ret | apply AW.block | apply AW.skip | apply AW.exit | apply AW.scope | apply AW.label | apply AWL.nil
    | ((first | (apply W.step cx_ok; decide) | (apply W.gS; rfl; decide) | apply AW.cond); (simp (disch := omega) only [push_cast, simprocAttr] <;> rfl); all_goals try ((with_reducible intro hI); try first | (cases hI; done) | (simp only [INTS] at hI; try first | (exfalso; omega) | (have hT : True := hI; clear hT hI))))
    | ((first | apply W.ret1 | apply W.end1); (iterate 2 (try (simp (disch := omega) only [push_cast, simprocAttr] <;> rfl))))
  all_goals (show _ = _; first | (simp [isG, *]; done) | (simp only [isG]; simp_all))
theorem indexFunc_ok (gs : List Gate) (way : Int) (back : Bool) (hl : gs.length ≤ 1099511627776) : OKv cx 67 [.lst (gs.map eGate), .clo 68 [.iptr [ai way] 0, .iptr [ab back] 0]] (ai (idxG (isG way back) 0 gs)) := by
  refine OKat.of_body (rs := [4]) Tryz.func67 rfl (by decide +kernel) rfl (by simp [Tryz.ntmps67]) ?_
  simp only [Tryz.ntmps67]
  repeat' first
    | apply AW.seq | apply AW.region | apply AW.ret | apply AW.block | apply AW.skip | apply AW.exit | apply AW.scope | apply AW.label | apply AWL.nil
    | ((first | (apply W.step cx_ok; decide) | apply AW.cond); (simp (disch := omega) only [push_cast, simprocAttr] <;> rfl); all_goals try ((with_reducible intro hI); try first | (cases hI; done) | (simp only [INTS] at hI; try first | (exfalso; omega) | (have hT : True := hI; clear hT hI))))
    | ((first | apply W.ret1 | apply W.end1); (iterate 2 (try (simp (disch := omega) only [push_cast, simprocAttr] <;> rfl))))
  refine AW.loop (fun n s => ∃ (k : Nat) (rest : List Gate), n = rest.length ∧ (gs.drop k = rest) ∧ (idxG (isG way back) k rest = idxG (isG way back) 0 gs) ∧ s.tm 0 = .lst (gs.map eGate) ∧ s.tm 1 = .clo 68 [.iptr [ai way] 0, .iptr [ab back] 0] ∧ s.tm 7 = ai gs.length ∧ s.tm 8 = ai k) (gs.length) ⟨0, _, rfl, rfl, rfl, ?_, ?_, ?_, ?_⟩ ?_
  iterate 4 (first | (simp (disch := omega) only [push_cast, simprocAttr] <;> first | rfl | omega) | omega)
  rintro n s ⟨k, rest, hn, hp0, hp1, hS⟩
  rcases rest with _ | ⟨x, rest⟩
  · have hk := drop_nil hp0
    repeat' first
      | apply AW.seq | apply AW.region | apply AW.ret | apply AW.block | apply AW.skip | apply AW.exit | apply AW.scope | apply AW.label | apply AWL.nil
      | ((first | (apply W.step cx_ok; decide) | apply AW.cond); (simp (disch := omega) only [push_cast, simprocAttr, hS, hk] <;> rfl); all_goals try ((with_reducible intro hI); try first | (cases hI; done) | (simp only [INTS] at hI; try first | (exfalso; omega) | (have hT : True := hI; clear hT hI))))
      | ((apply W.callv cx_ok; decide); (iterate 2 (simp (disch := omega) only [push_cast, simprocAttr, hS, hk] <;> rfl)); (with_reducible first | exact gateAsked1_ok _ _ _); try first | rfl | (simp (disch := omega) only [push_cast, simprocAttr, hS, hk] <;> rfl))
      | ((first | apply W.ret1 | apply W.end1); (iterate 2 (try (simp (disch := omega) only [push_cast, simprocAttr, hS, hk] <;> rfl))))
    all_goals (show _ = _; rw [← hp1]; rfl)
  · obtain ⟨hk, hg, hd', hl', hm, hx⟩ := drop_cons hp0 eGate []
    repeat' first
      | apply AW.seq | apply AW.region | apply AW.ret | apply AW.block | apply AW.skip | apply AW.exit | apply AW.scope | apply AW.label | apply AWL.nil
      | ((first | (apply W.step cx_ok; decide) | apply AW.cond); (simp (disch := omega) only [push_cast, simprocAttr, hS, hk, hg] <;> rfl); all_goals try ((with_reducible intro hI); try first | (cases hI; done) | (simp only [INTS] at hI; try first | (exfalso; omega) | (have hT : True := hI; clear hT hI))))
      | ((apply W.callv cx_ok; decide); (iterate 2 (simp (disch := omega) only [push_cast, simprocAttr, hS, hk, hg] <;> rfl)); (with_reducible first | exact gateAsked1_ok _ _ _); try first | rfl | (simp (disch := omega) only [push_cast, simprocAttr, hS, hk, hg] <;> rfl))
      | ((first | apply W.ret1 | apply W.end1); (iterate 2 (try (simp (disch := omega) only [push_cast, simprocAttr, hS, hk, hg] <;> rfl))))
    all_goals first
      | (show _ = _; rw [← hp1, idxG, if_pos (by assumption)]; done)
      | (rw [idxG, if_neg (by simp [*])] at hp1
         (refine ⟨rest.length, ?_, k + 1, rest, rfl, hd', hp1, ?_, ?_, ?_, ?_⟩; ((simp only [List.length_cons] at *; omega)); all_goals first | (simp (disch := omega) only [push_cast, simprocAttr, hS, hg, hk] <;> first | rfl | omega) | omega))
theorem gates_len (h : House) : (gates h).length ≤ 2 * h.ways.length := by
  have : ∀ (l : List Way) (i : Nat), (gatesL i l).length ≤ 2 * l.length := by
    intro l
    induction l with
    | nil => intro i; simp [gatesL]
    | cons w rest ih => intro i; have := ih (i + 1); unfold gatesL; split <;> simp <;> omega
  exact this _ _
theorem gateAsked_ok (h : House) (way : Int) (back : Bool) (t : Int) (hfit : h.Fit) : OKv cx 40 [.agg (eHouse h), ai way, ab back, ai t] (.tup [.agg (eGate (gateAsked h way back t).1), ai (gateAsked h way back t).2]) := by
  have hgl := gates_len h
  have hfw := hfit.nw
  have hfr := hfit.rooms
  obtain ⟨hlo, hhi⟩ := idxG_lo (isG way back) (gates h)
  by_cases hneg : idxG (isG way back) 0 (gates h) < 0
  · refine OKat.of_bodyC cx_ok (rs := [.cell 8 94, .tmp 9]) Tryz.func40 rfl (by decide +kernel) rfl (by decide) (by simp [Tryz.ntmps40]) ?_
    simp only [Tryz.ntmps40]
    repeat' first
      | apply AW.seq | apply AW.region | apply AW.ret | apply AW.block | apply AW.skip | apply AW.exit | apply AW.scope | apply AW.label | apply AWL.nil
      | ((first | (apply W.step cx_ok; decide) | apply W.store cx_ok | (apply W.gS; rfl; decide) | apply AW.cond); (simp (disch := omega) only [push_cast, simprocAttr, hneg] <;> rfl); all_goals try ((with_reducible intro hI); try first | (cases hI; done) | (simp only [INTS] at hI; try first | (exfalso; omega) | (have hT : True := hI; clear hT hI))))
      | ((apply W.callv cx_ok; decide); (iterate 2 (simp (disch := omega) only [push_cast, simprocAttr, hneg] <;> rfl)); (with_reducible first | exact Check_ok _ hfit | exact index_ok _ _ | exact time_ok _ | exact gates_ok _ hfit.nw | exact indexFunc_ok _ _ _ (by omega)); try first | rfl | (simp (disch := omega) only [push_cast, simprocAttr, hneg] <;> rfl))
      | ((first | apply W.retC | apply W.endC'); (iterate 2 (try (simp (disch := omega) only [push_cast, simprocAttr, hneg] <;> rfl))))
    all_goals first
      | (have hq : gateAsked h way back t = (.zero, (Check h).1) := by unfold gateAsked; rw [if_pos (by assumption)]
         show _ = _; rw [hq]; try rfl)
      | (have hq : gateAsked h way back t = (.zero, 1) := by unfold gateAsked; rw [if_neg (by omega), if_pos (by unfold timeOK; omega)]
         show _ = _; rw [hq]; try rfl)
      | (have hq : gateAsked h way back t = (.zero, 5) := by unfold gateAsked; rw [if_neg (by omega), if_neg (by unfold timeOK; omega), if_pos hneg]
         show _ = _; rw [hq]; try rfl)
  · have hk0 : 0 ≤ idxG (isG way back) 0 (gates h) := by omega
    have hgd := getD_map eGate (gates h) (idxG (isG way back) 0 (gates h)).toNat [] .zero (by omega)
    refine OKat.of_bodyC cx_ok (rs := [.cell 8 94, .tmp 9]) Tryz.func40 rfl (by decide +kernel) rfl (by decide) (by simp [Tryz.ntmps40]) ?_
    simp only [Tryz.ntmps40]
    repeat' first
      | apply AW.seq | apply AW.region | apply AW.ret | apply AW.block | apply AW.skip | apply AW.exit | apply AW.scope | apply AW.label | apply AWL.nil
      | ((first | (apply W.step cx_ok; decide) | apply W.store cx_ok | (apply W.gS; rfl; decide) | apply AW.cond); (simp (disch := omega) only [push_cast, simprocAttr, hneg, hk0, hhi, hgd] <;> rfl); all_goals try ((with_reducible intro hI); try first | (cases hI; done) | (simp only [INTS] at hI; try first | (exfalso; omega) | (have hT : True := hI; clear hT hI))))
      | ((apply W.callv cx_ok; decide); (iterate 2 (simp (disch := omega) only [push_cast, simprocAttr, hneg, hk0, hhi, hgd] <;> rfl)); (with_reducible first | exact Check_ok _ hfit | exact index_ok _ _ | exact time_ok _ | exact gates_ok _ hfit.nw | exact indexFunc_ok _ _ _ (by omega)); try first | rfl | (simp (disch := omega) only [push_cast, simprocAttr, hneg, hk0, hhi, hgd] <;> rfl))
      | ((first | apply W.retC | apply W.endC'); (iterate 2 (try (simp (disch := omega) only [push_cast, simprocAttr, hneg, hk0, hhi, hgd] <;> rfl))))
    all_goals first
      | (have hq : gateAsked h way back t = (.zero, (Check h).1) := by unfold gateAsked; rw [if_pos (by assumption)]
         show _ = _; rw [hq]; try rfl)
      | (have hq : gateAsked h way back t = (.zero, 1) := by unfold gateAsked; rw [if_neg (by omega), if_pos (by unfold timeOK; omega)]
         show _ = _; rw [hq]; try rfl)
      | (have hq : gateAsked h way back t = ((gates h).getD (idxG (isG way back) 0 (gates h)).toNat .zero, 0) := by unfold gateAsked; rw [if_neg (by omega), if_neg (by unfold timeOK; omega), if_neg hneg]
         show _ = _; rw [hq]; try rfl)
end Go.Proofs.Hz

namespace Go.Proofs.Hz
open Go Go.Pg Go.Proofs
def exH : House := ⟨[⟨(ByteArray.mk #[103, 97, 116, 101]), 0⟩, ⟨(ByteArray.mk #[109, 105, 108, 108]), 0⟩, ⟨(ByteArray.mk #[108, 111, 102, 116]), 1⟩], [⟨[⟨21600, 64800⟩], []⟩], [⟨0, 1, 60, 60, -1⟩, ⟨1, 2, 30, 0, 0⟩]⟩
section
variable {N : Nat} {Q : Exit → St → Prop} {s : St} {ops : Array Oper} {rest : List Oper} {d : Nat} {ty : TypeId} {ps : String} {af : Array Edge}
theorem P.frz98 {t id off n : Nat} {v : AV} (ht : s.tm t = .ref id off n) (hv : viewA s.H (.ref id off n) = some v)
    (k : AWL cx N ops Q (⟨some d, .build 38 #[(0, .tmp t)], ty, ps, af, none⟩ :: rest) { tm := upd s.tm t v, H := frz' s.H [id], nx := s.nx }) :
    AWL cx N ops Q (⟨some d, .build 38 #[(0, .tmp t)], ty, ps, af, none⟩ :: rest) s := by
  refine AWL.freeze (t := t) (v := v) (by rw [ht]; exact hv) ?_
  rw [ht]; exact k
end
theorem AWr.step {C : Cx} {N : Nat} {c : Code} {Q : Exit → St → Prop} {n : Nat} {s : St} (h : AW C N c (thenQ (AWr C N c Q n) Q) s) : AWr C N c Q (n + 1) s := h
theorem ex_ok : OKv cx 12 [] (.agg (eHouse exH)) := by
  refine OKat.of_bodyM cx_ok (rs := [.cell 0 26]) Tryz.func12 rfl (by decide +kernel) rfl (by simp [Tryz.ntmps12]) ?_
  simp only [Tryz.ntmps12]
  repeat' first
  | ((apply P.frz98); (iterate 2 (simp (disch := omega) only [push_cast, simprocAttr, rowAt_frz1, Int.reduceAdd, Int.reduceLT, Int.reduceLE, Int.reduceToNat, Int.reduceNeg, Int.reduceEq, Int.cast_ofNat_Int, Int.natCast_one, Int.reduceBEq, Int.reduceBNe, Nat.add_assoc] <;> rfl)))
    | apply AW.seq | apply AW.region | apply AW.ret | apply AW.block | apply AW.skip | apply AW.exit | apply AW.scope | apply AW.label | apply AWL.nil
    | ((first | (apply W.step cx_ok; decide) | apply W.store cx_ok | apply AW.cond); (simp (disch := omega) only [push_cast, simprocAttr, rowAt_frz1, Int.reduceAdd, Int.reduceLT, Int.reduceLE, Int.reduceToNat, Int.reduceNeg, Int.reduceEq, Int.cast_ofNat_Int, Int.natCast_one, Int.reduceBEq, Int.reduceBNe, Nat.add_assoc] <;> rfl); all_goals try ((with_reducible intro hI); try first | (cases hI; done) | (simp only [INTS] at hI; try first | (exfalso; omega) | (have hT : True := hI; clear hT hI))))
    | ((first | apply W.retM | apply W.endM'); (iterate 2 (try (simp (disch := omega) only [push_cast, simprocAttr, rowAt_frz1, Int.reduceAdd, Int.reduceLT, Int.reduceLE, Int.reduceToNat, Int.reduceNeg, Int.reduceEq, Int.cast_ofNat_Int, Int.natCast_one, Int.reduceBEq, Int.reduceBNe, Nat.add_assoc] <;> rfl))))
  | ((apply P.frz98); (iterate 2 (simp (disch := omega) only [push_cast, simprocAttr, rowAt_frz1, Int.reduceAdd, Int.reduceLT, Int.reduceLE, Int.reduceToNat, Int.reduceNeg, Int.reduceEq, Int.cast_ofNat_Int, Int.natCast_one, Int.reduceBEq, Int.reduceBNe, Nat.add_assoc] <;> rfl)))
    | ((apply P.eqNil; decide); (simp (disch := omega) only [push_cast, simprocAttr, rowAt_frz1, Int.reduceAdd, Int.reduceLT, Int.reduceLE, Int.reduceToNat, Int.reduceNeg, Int.reduceEq, Int.cast_ofNat_Int, Int.natCast_one, Int.reduceBEq, Int.reduceBNe, Nat.add_assoc] <;> rfl))
    | ((apply P.eqNil'; decide); (simp (disch := omega) only [push_cast, simprocAttr, rowAt_frz1, Int.reduceAdd, Int.reduceLT, Int.reduceLE, Int.reduceToNat, Int.reduceNeg, Int.reduceEq, Int.cast_ofNat_Int, Int.natCast_one, Int.reduceBEq, Int.reduceBNe, Nat.add_assoc] <;> rfl))
    | ((first | (apply P.neqSame; decide)); (iterate 3 (simp (disch := omega) only [push_cast, simprocAttr, rowAt_frz1, Int.reduceAdd, Int.reduceLT, Int.reduceLE, Int.reduceToNat, Int.reduceNeg, Int.reduceEq, Int.cast_ofNat_Int, Int.natCast_one, Int.reduceBEq, Int.reduceBNe, Nat.add_assoc] <;> rfl)); exact Nat.zero_le _; exact Nat.zero_le _)
    | ((first | (apply P.toUnsafe; decide) | (apply P.fromUnsafe; decide)); (iterate 2 (simp (disch := omega) only [push_cast, simprocAttr, rowAt_frz1, Int.reduceAdd, Int.reduceLT, Int.reduceLE, Int.reduceToNat, Int.reduceNeg, Int.reduceEq, Int.cast_ofNat_Int, Int.natCast_one, Int.reduceBEq, Int.reduceBNe, Nat.add_assoc] <;> rfl)); exact Nat.zero_le _; rfl; rfl)
    | ((apply P.noEscape; decide); (simp (disch := omega) only [push_cast, simprocAttr, rowAt_frz1, Int.reduceAdd, Int.reduceLT, Int.reduceLE, Int.reduceToNat, Int.reduceNeg, Int.reduceEq, Int.cast_ofNat_Int, Int.natCast_one, Int.reduceBEq, Int.reduceBNe, Nat.add_assoc] <;> rfl))
    | ((apply AWL.appendS cx_ok rfl rfl; decide; rfl; rfl; rfl; rfl; rfl; rfl; rfl; rfl; exact byteZero; (iterate 2 (simp (disch := omega) only [push_cast, simprocAttr, rowAt_frz1, Int.reduceAdd, Int.reduceLT, Int.reduceLE, Int.reduceToNat, Int.reduceNeg, Int.reduceEq, Int.cast_ofNat_Int, Int.natCast_one, Int.reduceBEq, Int.reduceBNe, Nat.add_assoc] <;> rfl)); omega; ((try dsimp only); (try simp only [strE_length, List.length_nil]); omega)))
    | ((first | apply W.retX | apply W.endX); (simp (disch := omega) only [push_cast, simprocAttr, rowAt_frz1, Int.reduceAdd, Int.reduceLT, Int.reduceLE, Int.reduceToNat, Int.reduceNeg, Int.reduceEq, Int.cast_ofNat_Int, Int.natCast_one, Int.reduceBEq, Int.reduceBNe, Nat.add_assoc] <;> rfl); (refine ⟨?_, ?_, ?_⟩ <;> (first | rfl | (simp (disch := omega) only [push_cast, simprocAttr, rowAt_frz1, Int.reduceAdd, Int.reduceLT, Int.reduceLE, Int.reduceToNat, Int.reduceNeg, Int.reduceEq, Int.cast_ofNat_Int, Int.natCast_one, Int.reduceBEq, Int.reduceBNe, Nat.add_assoc] <;> rfl))))
  all_goals (show _ = _; rfl)
theorem exH_fit : exH.Fit := ⟨by decide, by decide, by decide, by decide, by decide⟩
theorem words_pos (xs : List ByteArray) : 0 < (wordsB xs).size := by
  unfold wordsB
  rw [ByteArray.size_append]
  have : (ByteArray.mk #[10]).size = 1 := rfl
  omega
end Go.Proofs.Hz

namespace Go.Proofs.Hz
open Go Go.Pg Go.Proofs
def catB : List ByteArray → ByteArray
  | [] => ByteArray.empty
  | b :: r => b ++ catB r
def lineR (r : Room) : ByteArray := wordsB [(ByteArray.mk #[114, 111, 111, 109]), r.name, itoaB r.floor]
def wordsD (d : Door) : List ByteArray := [(ByteArray.mk #[100, 111, 111, 114])] ++ d.hours.map spanB ++ [(ByteArray.mk #[115, 104, 117, 116])] ++ d.shut.map spanB
def lineD (d : Door) : ByteArray := wordsB (wordsD d)
def wordsW (w : Way) : List ByteArray := [(ByteArray.mk #[119, 97, 121]), itoaB w.a, itoaB w.b, itoaB w.secs, itoaB w.back, itoaB w.door]
def lineW (w : Way) : ByteArray := wordsB (wordsW w)
def textB (h : House) : ByteArray := catB (h.rooms.map lineR) ++ (catB (h.doors.map lineD) ++ catB (h.ways.map lineW))
def printB (h : House) : ByteArray × Int := if (Check h).1 ≠ 0 then (ByteArray.empty, (Check h).1) else (textB h, 0)
theorem size_data (s : ByteArray) : s.data.toList.length = s.size := by rw [Array.length_toList]; rfl
theorem joinTail_len (sep : List UInt8) : ∀ (l : List (List UInt8)) (m n : Nat), (∀ x ∈ l, x.length ≤ m) → l.length ≤ n → (Lib.joinTail sep l).length ≤ n * (m + sep.length)
  | [], m, n, _, _ => by simp [Lib.joinTail]
  | x :: l, m, n, h, hn => by
    obtain ⟨k, rfl⟩ : ∃ k, n = k + 1 := ⟨n - 1, by simp only [List.length_cons] at hn; omega⟩
    have ih := joinTail_len sep l m k (fun y hy => h y (by simp [hy])) (by simp only [List.length_cons] at hn; omega)
    have hx := h x (by simp)
    unfold Lib.joinTail at ih ⊢
    simp only [List.map_cons, List.flatten_cons, List.length_append]
    rw [Nat.add_mul]; omega
theorem joinB_size (xs : List ByteArray) (m n : Nat) (h : ∀ x ∈ xs, x.size ≤ m) (hn : xs.length ≤ n) : (joinB xs (ByteArray.mk #[32])).size ≤ n * (m + 1) := by
  have hs : (joinB xs (ByteArray.mk #[32])).size = (Lib.join (xs.map (·.data.toList)) [32]).length := by
    show (Array.size _) = _
    simp [joinB]
  rw [hs]
  cases xs with
  | nil => simp [Lib.join_nil]
  | cons x r =>
    simp only [List.map_cons]
    rw [Lib.join_cons, List.length_append]
    obtain ⟨k, rfl⟩ : ∃ k, n = k + 1 := ⟨n - 1, by simp only [List.length_cons] at hn; omega⟩
    have := joinTail_len [32] (r.map (·.data.toList)) m k (fun y hy => by
      obtain ⟨z, hz, rfl⟩ := List.mem_map.1 hy
      rw [size_data]; exact h z (by simp [hz])) (by simp only [List.length_cons] at hn; simp; omega)
    have hx := h x (by simp)
    rw [size_data, Nat.add_mul]
    simp only [List.length_cons, List.length_nil, Nat.zero_add] at this
    omega
theorem wordsB_size (xs : List ByteArray) : (wordsB xs).size = (joinB xs (ByteArray.mk #[32])).size + 1 := by
  unfold wordsB; rw [ByteArray.size_append]; rfl
theorem spanB_size {s : Span} (h : 0 ≤ s.lo ∧ s.lo ≤ s.hi ∧ s.hi ≤ 2147483648) : (spanB s).size ≤ 43 := by
  unfold spanB
  have := itoaB_size s.lo (by omega) (by omega)
  have := itoaB_size s.hi (by omega) (by omega)
  rw [ByteArray.size_append, ByteArray.size_append]
  have : (ByteArray.mk #[45]).size = 1 := rfl
  omega
theorem Check_rooms {h : House} (hc : (Check h).1 = 0) : ∀ r ∈ h.rooms, named r.name = true ∧ -60 ≤ r.floor ∧ r.floor ≤ 60 := by
  have key : ∀ (l : List Room) (i : Nat) (pre : List Room), chkR i pre l = none → ∀ r ∈ l, named r.name = true ∧ -60 ≤ r.floor ∧ r.floor ≤ 60 := by
    intro l
    induction l with
    | nil => intro _ _ _ r hr; simp at hr
    | cons x l ih =>
      intro i pre hn r hr
      unfold chkR at hn
      split at hn
      · rename_i hx
        split at hn
        · cases hn
        · rcases List.mem_cons.1 hr with rfl | hr
          · exact hx
          · exact ih _ _ hn r hr
      · cases hn
  unfold Check at hc
  split at hc
  · cases hc
  · split at hc
    · cases hc
    · unfold chk1 at hc
      split at hc
      · rename_i e he; exact absurd hc (chkR_ne0 _ _ _ _ he)
      · rename_i he; exact key _ _ _ he
theorem named_size {s : ByteArray} (h : named s = true) : s.size ≤ 16 := by
  unfold named at h
  rw [namedL_eq] at h
  simp only [Bool.and_eq_true, decide_eq_true_eq] at h
  omega
theorem lineR_size {r : Room} (h : named r.name = true ∧ -60 ≤ r.floor ∧ r.floor ≤ 60) : (joinB [(ByteArray.mk #[114, 111, 111, 109]), r.name, itoaB r.floor] (ByteArray.mk #[32])).size ≤ 66 := by
  have h1 := named_size h.1
  have h2 := itoaB_size r.floor (by omega) (by omega)
  refine joinB_size _ 21 3 (fun x hx => ?_) (by simp)
  simp only [List.mem_cons, List.not_mem_nil, or_false] at hx
  rcases hx with rfl | rfl | rfl
  · decide
  · omega
  · exact h2
theorem lineD_size {d : Door} (hd : d.V) : (joinB (wordsD d) (ByteArray.mk #[32])).size ≤ 792 := by
  refine joinB_size _ 43 18 (fun x hx => ?_) ?_
  · unfold wordsD at hx
    simp only [List.mem_append, List.mem_singleton, List.mem_map] at hx
    rcases hx with ((rfl | ⟨s, hs, rfl⟩) | rfl) | ⟨s, hs, rfl⟩
    · decide
    · have := hd.hours.2.1 s hs; exact spanB_size (by omega)
    · decide
    · have := hd.shut.2.1 s hs; exact spanB_size (by omega)
  · have h1 := hd.hours.1
    have h2 := hd.shut.1
    simp [wordsD]; omega
theorem lineW_size {nr nd : Nat} {w : Way} (hw : w.OK nr nd) (h1 : nr ≤ 24) (h2 : nd ≤ 16) : (joinB (wordsW w) (ByteArray.mk #[32])).size ≤ 132 := by
  unfold Way.OK at hw
  refine joinB_size _ 21 6 (fun x hx => ?_) (by simp [wordsW])
  simp only [wordsW, List.mem_cons, List.not_mem_nil, or_false] at hx
  rcases hx with rfl | rfl | rfl | rfl | rfl | rfl
  · decide
  all_goals (exact itoaB_size _ (by omega) (by omega))
theorem empty_app (b : ByteArray) : ByteArray.empty ++ b = b := ByteArray.empty_append
end Go.Proofs.Hz

namespace Go.Pg
open Go Go.RowKit
section
variable {B0 : Nat} {S0 : Fr} {w : World} {H : Nat → Option AO} {σ : Sg}
theorem Inv.retell (hi : Inv B0 S0 w H σ) {id : Nat} {r : Row} {es' : List (List AV)} (hH : H id = some (.row r)) (hl : es'.length = r.es.length) (each : ∀ e ∈ es', e.length = r.k ∧ ∀ c ∈ e, c.cell = true)
    (hcon : ∀ b, σ.cur id = some b → ∀ i (h : i < es'.length), RepL σ w es'[i] (fun j => w.cell? ⟨b, i * r.k + j, none⟩)) : Inv B0 S0 w (updH H id (.row { r with es := es' })) σ := by
  have hr := hi.row id r hH
  refine ⟨fun i => ?_, fun i hn => ?_, hi.S_lt, hi.own_lt, fun i r' h => ?_, fun i kt et es h => ?_, hi.fr⟩
  · rw [hi.al]
    simp only [updH]
    split
    · rename_i e; subst e; simp [hH]
    · rfl
  · simp only [updH] at hn
    split at hn
    · cases hn
    · exact hi.fresh i hn
  · simp only [updH] at h
    split at h
    · rename_i e; subst e
      injection h with h; injection h with h; subst h
      refine ⟨by rw [hr.len]; exact hl.symm, hr.k, each, by show r.lo ≤ es'.length; rw [hl]; exact hr.lo, fun b hb => ?_, fun hc => ?_, fun b hb => ?_, fun b hb j hj => hcon b hb j hj⟩
      · obtain ⟨a1, a2, a3, a4, arr, a5, a6⟩ := hr.cur b hb
        exact ⟨a1, by show σ.ext b = es'.length; rw [hl]; exact a2, by show es'.length ≤ _; rw [hl]; exact a3, a4, arr, a5, a6⟩
      · have := hr.empty hc
        show es' = []
        rw [this] at hl
        exact List.eq_nil_of_length_eq_zero (by simpa using hl)
      · obtain ⟨a1, a2, a3, a4⟩ := hr.own b hb
        exact ⟨a1, by show σ.ext b ≤ es'.length; rw [hl]; exact a2, a3, a4⟩
    · exact hi.row i r' h
  · simp only [updH] at h
    split at h
    · cases h
    · exact hi.mp i kt et es h
end
section
variable {C : Cx} {N : Nat} {Q : Exit → St → Prop} {s : St}
theorem AW.adoptCell {c : Code} (B i j k : Nat) (e : TypeId) {r : Row} (hr : rowAt s.H B = some r) (hc : (r.es[i]?).bind (·[j]?) = some (.v (.slice none 0 0)))
    (h : AW C N c Q { tm := s.tm, H := updH (updH s.H s.nx (.row { k := k, es := [], ty := e })) B (.row { r with es := r.es.set i ((r.es.getD i []).set j (.ref s.nx 0 0)) }), nx := s.nx + 1 }) : AW C N c Q s := by
  rintro S0 w0 a w hE ⟨σ, hσ⟩
  have hH := rowAt_eq hr
  obtain ⟨hle, hinv⟩ := hσ.inv.adopt (hσ.nx s.nx (Nat.le_refl _)) { k := k, es := [], ty := e } rfl rfl rfl
  have hne : B ≠ s.nx := fun e => by have := hσ.nx s.nx (Nat.le_refl _); rw [e, this] at hH; cases hH
  have hH' : updH s.H s.nx (.row { k := k, es := [], ty := e }) B = some (.row r) := by simp only [updH]; rw [if_neg hne]; exact hH
  obtain ⟨ei, hei, hej⟩ := Option.bind_eq_some_iff.1 hc
  obtain ⟨hil, rfl⟩ := List.getElem?_eq_some_iff.1 hei
  have hgd : r.es.getD i [] = r.es[i] := by rw [List.getD_eq_getElem?_getD, List.getElem?_eq_getElem hil]; rfl
  have hR := hinv.row B r hH'
  have hnew : ∀ (w : World), Rep (σ.adopt s.nx k) w (.ref s.nx 0 0) (.slice none 0 0) := fun w => by
    simp only [Rep]
    exact ⟨.inl rfl, none, 0, rfl, Nat.le_refl _, by simp [maxLen], fun h => absurd rfl h, fun _ _ => .inl (by simp [Sg.adopt])⟩
  have hinv2 := hinv.retell (es' := r.es.set i ((r.es.getD i []).set j (.ref s.nx 0 0))) hH' (by simp) (fun x hx => by
    rcases List.mem_or_eq_of_mem_set hx with hx | rfl
    · exact hR.each x hx
    · rw [hgd]
      obtain ⟨e1, e2⟩ := hR.each _ (List.getElem_mem hil)
      refine ⟨by simpa using e1, fun c hc => ?_⟩
      rcases List.mem_or_eq_of_mem_set hc with hc | rfl
      · exact e2 c hc
      · rfl) (fun b hb i' hi' => by
    have hi2 : i' < r.es.length := by simpa using hi'
    have hcon := hR.con b hb i' hi2
    rw [List.getElem_set]
    split
    · rename_i he; subst he
      rw [hgd]
      rw [repL_iff'] at hcon ⊢
      intro m c hm
      rw [List.getElem?_set] at hm
      split at hm
      · rename_i hjm; subst hjm
        split at hm
        · injection hm with hm; subst hm
          obtain ⟨u, hu, hru⟩ := hcon j _ hej
          simp only [Rep] at hru
          subst hru
          exact ⟨_, hu, hnew w⟩
        · cases hm
      · exact hcon m c hm
    · exact hcon)
  refine h S0 w0 a w hE ⟨σ.adopt s.nx k, hinv2, fun id hid => ?_, fun u => Rep.mono hle _ _ (hσ.tm u), hσ.N, hσ.d, hσ.below⟩
  have hid' : s.nx + 1 ≤ id := hid
  have h0 := hσ.nx id (by omega)
  show updH (updH s.H s.nx _) B _ id = none
  simp only [updH]
  rw [if_neg (fun e => by subst e; rw [hH] at h0; cases h0), if_neg (by omega)]; exact h0
theorem AW.freeze {c : Code} {t : Nat} {v : AV} (hv : viewA s.H (s.tm t) = some v) (k : AW C N c Q { tm := upd s.tm t v, H := frz' s.H (idsA (s.tm t)), nx := s.nx }) : AW C N c Q s := by
  rintro S0 w0 a w hE ⟨σ, hσ⟩
  have hrows := idsA_row _ _ hv
  have hinv := hσ.inv.frz hrows
  have hle := hσ.inv.le_frz (idsA (s.tm t))
  have hinv' : Inv w0.heap.size S0 w (frz' s.H (idsA (s.tm t))) (σ.frz (idsA (s.tm t))) := by
    unfold frz'
    split
    · rename_i he
      have h0 : idsA (s.tm t) = [] := by simpa using he
      have e1 : σ.frz (idsA (s.tm t)) = σ := by
        rw [h0]
        unfold Sg.frz
        congr 1
        funext b; simp
      rw [e1]; exact hσ.inv
    · exact hinv
  refine k S0 w0 a w hE ⟨σ.frz (idsA (s.tm t)), hinv', fun id hid => ?_, fun u => ?_, hσ.N, hσ.d, hσ.below⟩
  · have h0 := hσ.nx id hid
    show frz' s.H _ id = none
    unfold frz'
    split
    · exact h0
    · unfold frz; split
      · rw [h0]
      · exact h0
  · show Rep _ w (upd s.tm t v u) _
    unfold upd
    split
    · rename_i he
      subst he
      exact Rep.lift (viewA_sound hσ.inv (S' := (σ.frz (idsA (s.tm u))).S) (fun b h => .inl h) _ _ _ hv (fun id hid b hb => .inr ⟨id, hid, hb⟩) (hσ.tm u))
    · exact Rep.mono hle _ _ (hσ.tm u)
end
end Go.Pg

namespace Go.Proofs.Hz
open Go Go.Pg Go.Proofs
theorem getD_eInt (l : List Int) (k : Nat) (h : k < l.length) : (l.map eInt).getD k [] = [ai (l.getD k 0)] := getD_map eInt l k [] 0 h
theorem get_eInt (l : List Int) (k : Nat) (h : k < l.length) : (l.map eInt)[k]? = some [ai (l.getD k 0)] := by
  rw [List.getElem?_map, (by rw [List.getD_eq_getElem?_getD, List.getElem?_eq_getElem h]; rfl : l[k]? = some (l.getD k 0))]; rfl
theorem getD_eGate (l : List Gate) (k : Nat) (h : k < l.length) : (l.map eGate).getD k [] = eGate (l.getD k .zero) := getD_map eGate l k [] .zero h
theorem pure_eInt (l : List Int) : (l.map eInt).all pureL = true := pure_map eInt (fun _ => rfl) l
theorem take_eInt {row : List Int} {n : Nat} (h : row.length = n) : (row.map eInt).take n = row.map eInt := by rw [List.take_of_length_le (by simp [h])]
theorem take_eGate {l : List Gate} {n : Nat} (h : l.length = n) : (l.map eGate).take n = l.map eGate := by rw [List.take_of_length_le (by simp [h])]
theorem viewLL_rooms (H : Nat → Option AO) (l : List Room) : viewLL H (l.map eRoom) = some (l.map eRoom) := viewLL_map H eRoom (fun _ => rfl) l
theorem viewLL_ways (H : Nat → Option AO) (l : List Way) : viewLL H (l.map eWay) = some (l.map eWay) := viewLL_map H eWay (fun _ => rfl) l
theorem viewLL_spans (H : Nat → Option AO) (l : List Span) : viewLL H (l.map eSpan) = some (l.map eSpan) := viewLL_map H eSpan (fun _ => rfl) l
theorem pure_spans (l : List Span) : (l.map eSpan).all pureL = true := pure_map eSpan (fun _ => rfl) l
theorem pure_rooms (l : List Room) : (l.map eRoom).all pureL = true := pure_map eRoom (fun _ => rfl) l
theorem pure_ways (l : List Way) : (l.map eWay).all pureL = true := pure_map eWay (fun _ => rfl) l
theorem pure_doors (l : List Door) : (l.map eDoor).all pureL = true := pure_map eDoor (fun _ => rfl) l
theorem take_mapLen {α : Type} (f : α → List AV) (l : List α) (n : Nat) (h : n = l.length) : (l.map f).take n = l.map f := by rw [List.take_of_length_le (by simp [h])]
theorem rowAt_frzG (H : Nat → Option AO) (ids : List Nat) (j : Nat) : Pg.rowAt (frz' H ids) j = if j ∈ ids then (Pg.rowAt H j).map (fun r => { r with fro := true }) else Pg.rowAt H j := by
  unfold frz' frz Pg.rowAt
  cases ids with
  | nil => simp
  | cons i ids =>
    simp only [List.isEmpty_cons, Bool.false_eq_true, if_false]
    by_cases h : j ∈ i :: ids
    · simp only [h, if_true]
      cases hh : H j with
      | none => rfl
      | some o => cases o <;> rfl
    · simp only [h, if_false]
theorem isEmpty_map {α β : Type} (f : α → β) (l : List α) : (l.map f).isEmpty = l.isEmpty := by cases l <;> rfl
theorem lo_len {α : Type} (l : List α) : (if l.isEmpty = true then 0 else l.length) = l.length := by cases l <;> rfl
theorem lo_gen {α : Type} (l : List α) (a b : Nat) (h : l.length = 0 → a = b) : (if l.isEmpty = true then a else b) = b := by
  split
  · rename_i he; exact h (by rw [List.isEmpty_iff.1 he]; rfl)
  · rfl
theorem maxNx (a : Nat) : max a (a + 1) = a + 1 := by omega
attribute [push_cast] maxNx get_eInt getD_eInt getD_eGate List.map_set List.length_set List.drop_zero Nat.zero_le pure_eInt take_eInt take_eGate pure_gate viewLL_rooms viewLL_ways viewLL_spans isEmpty_map lo_len lo_gen pure_spans pure_rooms pure_ways pure_doors take_mapLen rowAt_frzG rowAt_mask List.mem_cons List.not_mem_nil or_false or_self Nat.add_assoc List.length_append List.map_append List.append_assoc List.isEmpty_cons List.isEmpty_nil List.map_cons List.map_nil eGate
end Go.Proofs.Hz
