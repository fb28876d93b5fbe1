/-
  Contracts of functions, proved by going through their code. No conditions.
-/
import Derived.Test.YtdlflcambboojaaVaa
import Derived.Test.YtdlflcambboojaaVba
import Derived.Test.YtdlflcambboojaaVbb
import Derived.Test.YtdlflcambboojaaVbd
import Derived.Test.YtdlflcambboojaaN8KuC
import Derived.Test.YtdlflcambboojaaN8PkZo
set_option linter.unusedVariables false
set_option linter.unusedSimpArgs false
set_option maxHeartbeats 8000000
set_option maxRecDepth 10000
namespace Go.Proofs.Ks
open Go Go.Pg Go.Proofs
theorem Links_m (r : Rec) (hc : checkE r = 0) : OKm cx 40 [.agg (eRec r)] (fun _ => none) 0 (fun v H _ => ∃ i lw, v = .tup [.ref i 0 (linksR r []).length, ai 0] ∧ Pg.rowAt H i = some { k := 3, es := (linksR r []).map eLink, ty := 66, lo := lw } ∧ lw ≤ (linksR r []).length) := by
  have hv := checkE_V hc
  refine OKm.of_body cx_ok (rs := [.tmp 2, .tmp 3]) Try.func40 rfl (by decide +kernel) rfl (by simp [Try.ntmps40]) ?_
  simp only [Try.ntmps40]
  repeat' first
    | apply jA | apply jB | apply jC | apply jD | apply jE | apply jF | apply jG | apply jH | apply jI
    | ((first | (apply jK cx_ok; decide) | apply jR); (simp (disch := omega) only [push_cast, simprocAttr, hc, natNe, zI, zG, zJ] <;> rfl); all_goals try ((with_reducible intro hI); try first | (cases hI; done) | (simp only [INTS, zL] at hI; try first | (exfalso; omega) | (have hT : True := hI; clear hT hI))))
    | ((apply jV cx_ok; decide); (iterate 2 (simp (disch := omega) only [push_cast, simprocAttr, hc, natNe, zI, zG, zJ] <;> rfl)); (with_reducible first | exact Check_ok r); try first | rfl | (simp (disch := omega) only [push_cast, simprocAttr, hc, natNe, zI, zG, zJ] <;> rfl))


  refine W.callm cx_ok (by decide) (f := 87) (caps := []) (by simp (disch := omega) only [push_cast, simprocAttr, hc, natNe, zI, zG, zJ] <;> rfl) (OKm.nilArg (by simp (disch := omega) only [push_cast, simprocAttr, hc, natNe, zI, zG, zJ] <;> exact build_m r [] hv (by decide) nomore)) ?_
  rintro _ H1 nx1 ⟨rfl, hM, hn1, hf1⟩
  replace hM : SysM H1 3 5 2 6 (nodesR r []) (linksR r []) := hM
  obtain ⟨m1, m2, m3, lw, m4, m5⟩ := hM
  repeat' first
    | apply jA | apply jB | apply jC | apply jD | apply jE | apply jF | apply jG | apply jH | apply jI
    | ((first | (apply jK cx_ok; decide) | apply jR); (simp (disch := omega) only [push_cast, simprocAttr, hc, m1, m5, natNe, zI, zG, zJ] <;> rfl); all_goals try ((with_reducible intro hI); try first | (cases hI; done) | (simp only [INTS, zL] at hI; try first | (exfalso; omega) | (have hT : True := hI; clear hT hI))))


  all_goals
    (apply W.retX (vs := [.ref 6 0 (linksR r []).length, ai 0])
     · (simp (disch := omega) only [push_cast, simprocAttr, hc, m1, m5, natNe, zI, zG, zJ] <;> rfl)
     · exact ⟨6, lw, rfl, m5, m4⟩)
def recA (s : Session) (a b c : AV) : List AV := [ai s.id, ai s.inn.lo, ai s.inn.hi, ai s.out.lo, ai s.out.hi, ai s.zero.lo, ai s.zero.hi, ai s.fin.lo, ai s.fin.hi, ai s.rate.lo, ai s.rate.hi, a, b, c]
def NewRec (s : Session) (SS : List Strike) (TT : List Sight) (v : AV) (H : Nat → Option AO) (_ : Nat) : Prop :=
  ∃ x y z la, v = .agg (recA s (.ref x 0 s.stops.length) (.ref y 0 SS.length) (.ref z 0 TT.length)) ∧ Pg.rowAt H x = some { k := 3, es := s.stops.map eStop, ty := 68, lo := la } ∧ la ≤ s.stops.length ∧
    Pg.rowAt H y = some { k := 3, es := SS.map eStrike, ty := 60, lo := SS.length } ∧ Pg.rowAt H z = some { k := 3, es := TT.map eSight, ty := 53, lo := TT.length } ∧ x ≠ y ∧ x ≠ z ∧ y ≠ z
theorem without_m (r : Rec) (ids : List Int) (hi : ids.length ≤ 1000000) (hst : r.s.stops.length ≤ 1000000) (hsk : r.strikes.length ≤ 1000000) (hsg : r.sights.length ≤ 1000000) : OKm cx 95 [.agg (eRec r), lInt ids] (fun _ => none) 0 (NewRec r.s (withoutR r ids).strikes (withoutR r ids).sights) := by
  have hcl := clone114_ok r.s.stops hst
  obtain ⟨PS, hPS⟩ : ∃ f, (fun x : Strike => !ids.contains x.id) = f := ⟨_, rfl⟩
  obtain ⟨PT, hPT⟩ : ∃ f, (fun x : Sight => !ids.contains x.strike) = f := ⟨_, rfl⟩
  obtain ⟨SS, hSS⟩ : ∃ z, r.strikes.filter PS = z := ⟨_, rfl⟩
  obtain ⟨TT, hTT⟩ : ∃ z, r.sights.filter PT = z := ⟨_, rfl⟩
  have hR : withoutR r ids = { s := r.s, strikes := SS, sights := TT } := by unfold withoutR; rw [hPS, hPT, hSS, hTT]
  have hPSe : ∀ x, PS x = !ids.contains x.id := fun x => by rw [← hPS]
  have hPTe : ∀ x, PT x = !ids.contains x.strike := fun x => by rw [← hPT]
  rw [hR]
  clear hR hPS hPT
  have hlook := fun x => setM_look x ids
  refine OKm.of_body cx_ok (rs := [.cell 4 30]) Try.func95 rfl (by decide +kernel) rfl (by simp [Try.ntmps95]) ?_
  simp only [Try.ntmps95]
  obtain ⟨Z1, hZ1⟩ : ∃ z, ([.v (.int .i64 0), .v (.int .i64 0), .v (.int .i64 0), .v (.int .i64 0), .v (.int .i64 0), .v (.int .i64 0), .v (.int .i64 0), .v (.int .i64 0), .v (.int .i64 0), .v (.int .i64 0), .v (.int .i64 0), .v (.slice none 0 0), .v (.slice none 0 0), .v (.slice none 0 0)] : List AV) = z := ⟨_, rfl⟩
  repeat' first
    | apply jA | apply jB | apply jC | apply jD | apply jE | apply jF | apply jG | apply jH | apply jI
    | ((first | (apply jK cx_ok; decide) | apply jM cx_ok | apply jR | apply jS cx_ok); (simp (disch := (first | omega | (simp only [vC]; omega))) only [push_cast, simprocAttr, takeM, dropM, zK, zA, zB, zN, zQ, zR, zO, zP, zT, zS, zU, leT, zH, natNe, zI, zG, zJ, isEmpty_map, zV, zW, zC, zM, hZ1] <;> rfl); all_goals try ((with_reducible intro hI); try first | (cases hI; done) | (simp only [INTS, zL] at hI; try first | (exfalso; omega) | (have hT : True := hI; clear hT hI))))
    | (refine W.makeMap cx_ok (by simp only [push_cast, simprocAttr] <;> rfl) (by decide) ?_)
    | (apply jT cx_ok; decide; rfl; rfl; rfl; decide; (iterate 3 (simp (disch := (first | omega | (simp only [vC]; omega))) only [push_cast, simprocAttr, takeM, dropM, zK, zA, zB, zN, zQ, zR, zO, zP, zT, zS, zU, leT, zH, natNe, zI, zG, zJ, isEmpty_map, zV, zW, zC, zM, hZ1] <;> rfl)); (first | (focus (simp; done)) | (intro c hc; obtain ⟨x, _, rfl⟩ := List.mem_map.1 hc; rfl)); ((first | rfl | simp (disch := omega) only [push_cast])); ((try dsimp only); (try simp only [vC]); omega); ((try dsimp only); (try simp only [vC]); omega))

  refine AW.loop (fun n s => ∃ (k : Nat) (rest : List Int), n = rest.length ∧ (ids.drop k = rest) ∧ (k ≤ ids.length) ∧ 3 ≤ s.nx ∧ s.tm 2 = .ptr 0 0 0 1 ∧ s.tm 4 = .ptr 1 0 0 1 ∧ s.tm 5 = .map 2 ∧ s.tm 14 = lInt ids ∧ s.tm 15 = ai ids.length ∧ s.tm 16 = ai k ∧ Pg.rowAt s.H 0 = some { k := 14, es := [eRec r], ty := 30 } ∧ Pg.rowAt s.H 1 = some { k := 14, es := [Z1], ty := 30 } ∧ s.H 2 = some (.mp (.map .int) 0 (setM (ids.take k)))) (ids.length) ⟨0, ids, rfl, rfl, (Nat.zero_le _), ?_, ?_, ?_, ?_, ?_, ?_, ?_, ?_, ?_, ?_⟩ ?_
  iterate 10 (first | (simp (disch := omega) only [push_cast, simprocAttr, natNe, zI, zG, zJ, isEmpty_map, zV, zW, zC, zM, hZ1, List.take_zero, setM, List.foldl_nil] <;> first | rfl | omega) | omega)
  rintro n0 s0 ⟨k0, rest0, hn0, hp00, hp10, hnl0, hS0⟩
  rcases rest0 with _ | ⟨x, rest0⟩
  rotate_left
  · obtain ⟨hk, hg, hd', hl', hm', hx⟩ := drop_cons hp00 eInt []
    have hsn : setM (ids.take (k0 + 1)) = putM (.int x) (ab true) (setM (ids.take k0)) := by rw [take_snoc hp00, setM_snoc]
    repeat' first
      | apply jA | apply jB | apply jC | apply jD | apply jE | apply jF | apply jG | apply jH | apply jI
      | ((first | (apply jK cx_ok; decide) | apply jM cx_ok | apply jR | apply jS cx_ok); (simp (disch := (first | omega | (simp only [vC]; omega))) only [push_cast, simprocAttr, takeM, dropM, zK, zA, zB, zN, zQ, zR, zO, zP, zT, zS, zU, leT, zH, hS0, natNe, zI, zG, zJ, isEmpty_map, zV, zW, zC, zM, hk, hg, hx] <;> rfl); all_goals try ((with_reducible intro hI); try first | (cases hI; done) | (simp only [INTS, zL] at hI; try first | (exfalso; omega) | (have hT : True := hI; clear hT hI))))
      | (refine W.makeMap cx_ok (by simp only [push_cast, simprocAttr] <;> rfl) (by decide) ?_)
      | (apply jT cx_ok; decide; rfl; rfl; rfl; decide; (iterate 3 (simp (disch := (first | omega | (simp only [vC]; omega))) only [push_cast, simprocAttr, takeM, dropM, zK, zA, zB, zN, zQ, zR, zO, zP, zT, zS, zU, leT, zH, hS0, natNe, zI, zG, zJ, isEmpty_map, zV, zW, zC, zM, hk, hg, hx] <;> rfl)); (first | (focus (simp; done)) | (intro c hc; obtain ⟨x, _, rfl⟩ := List.mem_map.1 hc; rfl)); ((first | rfl | simp (disch := omega) only [push_cast])); ((try dsimp only); (try simp only [vC]); omega); ((try dsimp only); (try simp only [vC]); omega))

    all_goals (refine ⟨rest0.length, ?_, k0 + 1, rest0, rfl, hd', (by omega), ?_, ?_, ?_, ?_, ?_, ?_, ?_, ?_, ?_, ?_⟩; ((simp only [zD] at *; omega)); all_goals first | (simp (disch := omega) only [push_cast, simprocAttr, hS0, natNe, zI, zG, zJ, isEmpty_map, zV, zW, zC, zM, hk, hg, hx, hsn] <;> first | rfl | omega) | omega)
  have hk := drop_nil hp00
  have hkl : ids.take k0 = ids := List.take_of_length_le (List.drop_eq_nil_iff.1 hp00)
  rw [hkl] at hS0
  repeat' first
    | ((apply D.callw cx_ok; decide; decide); (iterate 3 (simp (disch := (first | omega | (simp only [vC]; omega))) only [push_cast, simprocAttr, takeM, dropM, zK, zA, zB, zN, zQ, zR, zO, zP, zT, zS, zU, leT, zH, hS0, natNe, zI, zG, zJ, isEmpty_map, zV, zW, zC, zM, hk] <;> rfl)); (with_reducible exact hcl); (first | exact .inl rfl | (refine .inr ?_; simp (disch := (first | omega | (simp only [vC]; omega))) only [push_cast, simprocAttr, takeM, dropM, zK, zA, zB, zN, zQ, zR, zO, zP, zT, zS, zU, leT, zH, hS0, natNe, zI, zG, zJ, isEmpty_map, zV, zW, zC, zM, hk] <;> simp)))
    | ((apply W.callw cx_ok; decide); (iterate 3 (simp (disch := (first | omega | (simp only [vC]; omega))) only [push_cast, simprocAttr, takeM, dropM, zK, zA, zB, zN, zQ, zR, zO, zP, zT, zS, zU, leT, zH, hS0, natNe, zI, zG, zJ, isEmpty_map, zV, zW, zC, zM, hk] <;> rfl)); (with_reducible exact hcl))
    | apply jA | apply jB | apply jC | apply jD | apply jE | apply jF | apply jG | apply jH | apply jI
    | ((first | (apply jK cx_ok; decide) | apply jM cx_ok | apply jR | apply jS cx_ok); (simp (disch := (first | omega | (simp only [vC]; omega))) only [push_cast, simprocAttr, takeM, dropM, zK, zA, zB, zN, zQ, zR, zO, zP, zT, zS, zU, leT, zH, hS0, natNe, zI, zG, zJ, isEmpty_map, zV, zW, zC, zM, hk] <;> rfl); all_goals try ((with_reducible intro hI); try first | (cases hI; done) | (simp only [INTS, zL] at hI; try first | (exfalso; omega) | (have hT : True := hI; clear hT hI))))
    | (refine W.makeMap cx_ok (by simp only [push_cast, simprocAttr] <;> rfl) (by decide) ?_)
    | (apply jT cx_ok; decide; rfl; rfl; rfl; decide; (iterate 3 (simp (disch := (first | omega | (simp only [vC]; omega))) only [push_cast, simprocAttr, takeM, dropM, zK, zA, zB, zN, zQ, zR, zO, zP, zT, zS, zU, leT, zH, hS0, natNe, zI, zG, zJ, isEmpty_map, zV, zW, zC, zM, hk] <;> rfl)); (first | (focus (simp; done)) | (intro c hc; obtain ⟨x, _, rfl⟩ := List.mem_map.1 hc; rfl)); ((first | rfl | simp (disch := omega) only [push_cast])); ((try dsimp only); (try simp only [vC]); omega); ((try dsimp only); (try simp only [vC]); omega))

  refine AW.adoptCell s0.nx 0 12 3 60 (r := { k := 14, es := [[ai r.s.id, ai r.s.inn.lo, ai r.s.inn.hi, ai r.s.out.lo, ai r.s.out.hi, ai r.s.zero.lo, ai r.s.zero.hi, ai r.s.fin.lo, ai r.s.fin.hi, ai r.s.rate.lo, ai r.s.rate.hi, .ref (s0.nx + 1) 0 r.s.stops.length, .v (.slice none 0 0), .v (.slice none 0 0)]], ty := 30 }) (by simp (disch := omega) only [push_cast, simprocAttr, hS0, natNe, zI, zG, zJ, isEmpty_map, zV, zW, zC, zM, hk] <;> rfl) rfl ?_
  refine AW.adoptCell s0.nx 0 13 3 53 (r := { k := 14, es := [[ai r.s.id, ai r.s.inn.lo, ai r.s.inn.hi, ai r.s.out.lo, ai r.s.out.hi, ai r.s.zero.lo, ai r.s.zero.hi, ai r.s.fin.lo, ai r.s.fin.hi, ai r.s.rate.lo, ai r.s.rate.hi, .ref (s0.nx + 1) 0 r.s.stops.length, .ref (s0.nx + 2) 0 0, .v (.slice none 0 0)]], ty := 30 }) (by simp (disch := omega) only [push_cast, simprocAttr, hS0, natNe, zI, zG, zJ, isEmpty_map, zV, zW, zC, zM, hk] <;> rfl) rfl ?_
  refine AW.loop (fun n s => ∃ (k : Nat) (O : List Strike) (rest : List Strike), n = rest.length ∧ (r.strikes.drop k = rest) ∧ (O ++ rest.filter PS = SS) ∧ (O.length ≤ k) ∧ (k ≤ r.strikes.length) ∧ s0.nx + 4 ≤ s.nx ∧ s.tm 2 = .ptr 0 0 0 1 ∧ s.tm 4 = .ptr 1 0 0 1 ∧ s.tm 5 = .map 2 ∧ s.tm 8 = .ptr s0.nx 0 0 1 ∧ s.tm 33 = lStrike r.strikes ∧ s.tm 34 = ai r.strikes.length ∧ s.tm 35 = ai k ∧ Pg.rowAt s.H 0 = some { k := 14, es := [eRec r], ty := 30 } ∧ Pg.rowAt s.H 1 = some { k := 14, es := [Z1], ty := 30 } ∧ s.H 2 = some (.mp (.map .int) 0 (setM ids)) ∧ Pg.rowAt s.H s0.nx = some { k := 14, es := [[ai r.s.id, ai r.s.inn.lo, ai r.s.inn.hi, ai r.s.out.lo, ai r.s.out.hi, ai r.s.zero.lo, ai r.s.zero.hi, ai r.s.fin.lo, ai r.s.fin.hi, ai r.s.rate.lo, ai r.s.rate.hi, .ref (s0.nx + 1) 0 r.s.stops.length, .ref (s0.nx + 2) 0 O.length, .ref (s0.nx + 3) 0 ([] : List Sight).length]], ty := 30 } ∧ Pg.rowAt s.H (s0.nx + 1) = some { k := 3, es := r.s.stops.map eStop, ty := 68, lo := if r.s.stops.isEmpty = true then 0 else r.s.stops.length } ∧ Pg.rowAt s.H (s0.nx + 2) = some { k := 3, es := O.map eStrike, ty := 60, lo := O.length } ∧ Pg.rowAt s.H (s0.nx + 3) = some { k := 3, es := ([] : List Sight).map eSight, ty := 53, lo := 0 }) (r.strikes.length) ⟨0, [], r.strikes, rfl, rfl, (by rw [hSS]; rfl), (Nat.zero_le _), (Nat.zero_le _), ?_, ?_, ?_, ?_, ?_, ?_, ?_, ?_, ?_, ?_, ?_, ?_, ?_, ?_, ?_⟩ ?_
  iterate 15 (first | (simp (disch := omega) only [push_cast, simprocAttr, hS0, natNe, zI, zG, zJ, isEmpty_map, zV, zW, zC, zM, hk] <;> first | rfl | omega) | omega)
  rintro n2 s2 ⟨k2, O2, rest2, hn2, hp02, hp12, hp22, hp32, hnl2, hS2⟩
  rcases rest2 with _ | ⟨x, rest2⟩
  rotate_left
  · obtain ⟨hk2, hg2, hd2, hl2, hm2, hx2⟩ := drop_cons hp02 eStrike []
    rw [List.filter_cons, hPSe] at hp12
    cases hq : ids.contains x.id with
    | true =>
      rw [hq, if_neg (by decide)] at hp12
      repeat' first
        | apply jA | apply jB | apply jC | apply jD | apply jE | apply jF | apply jG | apply jH | apply jI
        | ((first | (apply jK cx_ok; decide) | apply jM cx_ok | apply jR | apply jS cx_ok); (simp (disch := (first | omega | (simp only [vC]; omega))) only [push_cast, simprocAttr, takeM, dropM, zK, zA, zB, zN, zQ, zR, zO, zP, zT, zS, zU, leT, zH, hS2, natNe, zI, zG, zJ, isEmpty_map, zV, zW, zC, zM, hk2, hg2, hx2, hlook, hq] <;> rfl); all_goals try ((with_reducible intro hI); try first | (cases hI; done) | (simp only [INTS, zL] at hI; try first | (exfalso; omega) | (have hT : True := hI; clear hT hI))))
        | (refine W.makeMap cx_ok (by simp only [push_cast, simprocAttr] <;> rfl) (by decide) ?_)
        | (apply jT cx_ok; decide; rfl; rfl; rfl; decide; (iterate 3 (simp (disch := (first | omega | (simp only [vC]; omega))) only [push_cast, simprocAttr, takeM, dropM, zK, zA, zB, zN, zQ, zR, zO, zP, zT, zS, zU, leT, zH, hS2, natNe, zI, zG, zJ, isEmpty_map, zV, zW, zC, zM, hk2, hg2, hx2, hlook, hq] <;> rfl)); (first | (focus (simp; done)) | (intro c hc; obtain ⟨x, _, rfl⟩ := List.mem_map.1 hc; rfl)); ((first | rfl | simp (disch := omega) only [push_cast])); ((try dsimp only); (try simp only [vC]); omega); ((try dsimp only); (try simp only [vC]); omega))

      all_goals (refine ⟨rest2.length, ?_, k2 + 1, O2, rest2, rfl, hd2, hp12, (by omega), (by omega), ?_, ?_, ?_, ?_, ?_, ?_, ?_, ?_, ?_, ?_, ?_, ?_, ?_, ?_, ?_⟩; ((simp only [zD] at *; omega)); all_goals first | (simp (disch := omega) only [push_cast, simprocAttr, hS2, natNe, zI, zG, zJ, isEmpty_map, zV, zW, zC, zM, hk2, hg2, hx2, hlook, hq] <;> first | rfl | omega) | omega)
    | false =>
      rw [hq, if_pos (by decide)] at hp12
      repeat' first
        | apply jA | apply jB | apply jC | apply jD | apply jE | apply jF | apply jG | apply jH | apply jI
        | ((first | (apply jK cx_ok; decide) | apply jM cx_ok | apply jR | apply jS cx_ok); (simp (disch := (first | omega | (simp only [vC]; omega))) only [push_cast, simprocAttr, takeM, dropM, zK, zA, zB, zN, zQ, zR, zO, zP, zT, zS, zU, leT, zH, hS2, natNe, zI, zG, zJ, isEmpty_map, zV, zW, zC, zM, zY, zX, zE, zD, Nat.zero_add, hk2, hg2, hx2, hlook, hq] <;> rfl); all_goals try ((with_reducible intro hI); try first | (cases hI; done) | (simp only [INTS, zL] at hI; try first | (exfalso; omega) | (have hT : True := hI; clear hT hI))))
        | (refine W.makeMap cx_ok (by simp only [push_cast, simprocAttr] <;> rfl) (by decide) ?_)
        | (apply jT cx_ok; decide; rfl; rfl; rfl; decide; (iterate 3 (simp (disch := (first | omega | (simp only [vC]; omega))) only [push_cast, simprocAttr, takeM, dropM, zK, zA, zB, zN, zQ, zR, zO, zP, zT, zS, zU, leT, zH, hS2, natNe, zI, zG, zJ, isEmpty_map, zV, zW, zC, zM, zY, zX, zE, zD, Nat.zero_add, hk2, hg2, hx2, hlook, hq] <;> rfl)); (first | (focus (simp; done)) | (intro c hc; obtain ⟨x, _, rfl⟩ := List.mem_map.1 hc; rfl)); ((first | rfl | simp (disch := omega) only [push_cast])); ((try dsimp only); (try simp only [vC]); omega); ((try dsimp only); (try simp only [vC]); omega))

      all_goals (refine ⟨rest2.length, ?_, k2 + 1, (O2 ++ [x]), rest2, rfl, hd2, (by rw [List.append_assoc]; exact hp12), (by rw [List.length_append, List.length_singleton]; omega), (by omega), ?_, ?_, ?_, ?_, ?_, ?_, ?_, ?_, ?_, ?_, ?_, ?_, ?_, ?_, ?_⟩; ((simp only [zD] at *; omega)); all_goals first | (simp (disch := omega) only [push_cast, simprocAttr, hS2, natNe, zI, zG, zJ, isEmpty_map, zV, zW, zC, zM, zY, zX, zE, zD, Nat.zero_add, hk2, hg2, hx2, hlook, hq] <;> first | rfl | omega) | omega)
  have hk2 := drop_nil hp02
  simp only [List.filter_nil, zZ] at hp12
  rw [hp12] at hS2
  repeat' first
    | apply jA | apply jB | apply jC | apply jD | apply jE | apply jF | apply jG | apply jH | apply jI
    | ((first | (apply jK cx_ok; decide) | apply jM cx_ok | apply jR | apply jS cx_ok); (simp (disch := (first | omega | (simp only [vC]; omega))) only [push_cast, simprocAttr, takeM, dropM, zK, zA, zB, zN, zQ, zR, zO, zP, zT, zS, zU, leT, zH, hS2, natNe, zI, zG, zJ, isEmpty_map, zV, zW, zC, zM, hk2] <;> rfl); all_goals try ((with_reducible intro hI); try first | (cases hI; done) | (simp only [INTS, zL] at hI; try first | (exfalso; omega) | (have hT : True := hI; clear hT hI))))
    | (refine W.makeMap cx_ok (by simp only [push_cast, simprocAttr] <;> rfl) (by decide) ?_)
    | (apply jT cx_ok; decide; rfl; rfl; rfl; decide; (iterate 3 (simp (disch := (first | omega | (simp only [vC]; omega))) only [push_cast, simprocAttr, takeM, dropM, zK, zA, zB, zN, zQ, zR, zO, zP, zT, zS, zU, leT, zH, hS2, natNe, zI, zG, zJ, isEmpty_map, zV, zW, zC, zM, hk2] <;> rfl)); (first | (focus (simp; done)) | (intro c hc; obtain ⟨x, _, rfl⟩ := List.mem_map.1 hc; rfl)); ((first | rfl | simp (disch := omega) only [push_cast])); ((try dsimp only); (try simp only [vC]); omega); ((try dsimp only); (try simp only [vC]); omega))

  refine AW.loop (fun n s => ∃ (k : Nat) (O : List Sight) (rest : List Sight), n = rest.length ∧ (r.sights.drop k = rest) ∧ (O ++ rest.filter PT = TT) ∧ (O.length ≤ k) ∧ (k ≤ r.sights.length) ∧ s0.nx + 4 ≤ s.nx ∧ s.tm 2 = .ptr 0 0 0 1 ∧ s.tm 4 = .ptr 1 0 0 1 ∧ s.tm 5 = .map 2 ∧ s.tm 8 = .ptr s0.nx 0 0 1 ∧ s.tm 52 = lSight r.sights ∧ s.tm 53 = ai r.sights.length ∧ s.tm 54 = ai k ∧ Pg.rowAt s.H 0 = some { k := 14, es := [eRec r], ty := 30 } ∧ Pg.rowAt s.H 1 = some { k := 14, es := [Z1], ty := 30 } ∧ s.H 2 = some (.mp (.map .int) 0 (setM ids)) ∧ Pg.rowAt s.H s0.nx = some { k := 14, es := [[ai r.s.id, ai r.s.inn.lo, ai r.s.inn.hi, ai r.s.out.lo, ai r.s.out.hi, ai r.s.zero.lo, ai r.s.zero.hi, ai r.s.fin.lo, ai r.s.fin.hi, ai r.s.rate.lo, ai r.s.rate.hi, .ref (s0.nx + 1) 0 r.s.stops.length, .ref (s0.nx + 2) 0 SS.length, .ref (s0.nx + 3) 0 O.length]], ty := 30 } ∧ Pg.rowAt s.H (s0.nx + 1) = some { k := 3, es := r.s.stops.map eStop, ty := 68, lo := if r.s.stops.isEmpty = true then 0 else r.s.stops.length } ∧ Pg.rowAt s.H (s0.nx + 2) = some { k := 3, es := SS.map eStrike, ty := 60, lo := SS.length } ∧ Pg.rowAt s.H (s0.nx + 3) = some { k := 3, es := O.map eSight, ty := 53, lo := O.length }) (r.sights.length) ⟨0, [], r.sights, rfl, rfl, (by rw [hTT]; rfl), (Nat.zero_le _), (Nat.zero_le _), ?_, ?_, ?_, ?_, ?_, ?_, ?_, ?_, ?_, ?_, ?_, ?_, ?_, ?_, ?_⟩ ?_
  iterate 15 (first | (simp (disch := omega) only [push_cast, simprocAttr, hS2, natNe, zI, zG, zJ, isEmpty_map, zV, zW, zC, zM, hk2] <;> first | rfl | omega) | omega)
  rintro n4 s4 ⟨k4, O4, rest4, hn4, hp04, hp14, hp24, hp34, hnl4, hS4⟩
  rcases rest4 with _ | ⟨x, rest4⟩
  rotate_left
  · obtain ⟨hk4, hg4, hd4, hl4, hm4, hx4⟩ := drop_cons hp04 eSight []
    rw [List.filter_cons, hPTe] at hp14
    cases hq : ids.contains x.strike with
    | true =>
      rw [hq, if_neg (by decide)] at hp14
      repeat' first
        | apply jA | apply jB | apply jC | apply jD | apply jE | apply jF | apply jG | apply jH | apply jI
        | ((first | (apply jK cx_ok; decide) | apply jM cx_ok | apply jR | apply jS cx_ok); (simp (disch := (first | omega | (simp only [vC]; omega))) only [push_cast, simprocAttr, takeM, dropM, zK, zA, zB, zN, zQ, zR, zO, zP, zT, zS, zU, leT, zH, hS4, natNe, zI, zG, zJ, isEmpty_map, zV, zW, zC, zM, hk4, hg4, hx4, hlook, hq] <;> rfl); all_goals try ((with_reducible intro hI); try first | (cases hI; done) | (simp only [INTS, zL] at hI; try first | (exfalso; omega) | (have hT : True := hI; clear hT hI))))
        | (refine W.makeMap cx_ok (by simp only [push_cast, simprocAttr] <;> rfl) (by decide) ?_)
        | (apply jT cx_ok; decide; rfl; rfl; rfl; decide; (iterate 3 (simp (disch := (first | omega | (simp only [vC]; omega))) only [push_cast, simprocAttr, takeM, dropM, zK, zA, zB, zN, zQ, zR, zO, zP, zT, zS, zU, leT, zH, hS4, natNe, zI, zG, zJ, isEmpty_map, zV, zW, zC, zM, hk4, hg4, hx4, hlook, hq] <;> rfl)); (first | (focus (simp; done)) | (intro c hc; obtain ⟨x, _, rfl⟩ := List.mem_map.1 hc; rfl)); ((first | rfl | simp (disch := omega) only [push_cast])); ((try dsimp only); (try simp only [vC]); omega); ((try dsimp only); (try simp only [vC]); omega))

      all_goals (refine ⟨rest4.length, ?_, k4 + 1, O4, rest4, rfl, hd4, hp14, (by omega), (by omega), ?_, ?_, ?_, ?_, ?_, ?_, ?_, ?_, ?_, ?_, ?_, ?_, ?_, ?_, ?_⟩; ((simp only [zD] at *; omega)); all_goals first | (simp (disch := omega) only [push_cast, simprocAttr, hS4, natNe, zI, zG, zJ, isEmpty_map, zV, zW, zC, zM, hk4, hg4, hx4, hlook, hq] <;> first | rfl | omega) | omega)
    | false =>
      rw [hq, if_pos (by decide)] at hp14
      repeat' first
        | apply jA | apply jB | apply jC | apply jD | apply jE | apply jF | apply jG | apply jH | apply jI
        | ((first | (apply jK cx_ok; decide) | apply jM cx_ok | apply jR | apply jS cx_ok); (simp (disch := (first | omega | (simp only [vC]; omega))) only [push_cast, simprocAttr, takeM, dropM, zK, zA, zB, zN, zQ, zR, zO, zP, zT, zS, zU, leT, zH, hS4, natNe, zI, zG, zJ, isEmpty_map, zV, zW, zC, zM, zY, zX, zE, zD, Nat.zero_add, hk4, hg4, hx4, hlook, hq] <;> rfl); all_goals try ((with_reducible intro hI); try first | (cases hI; done) | (simp only [INTS, zL] at hI; try first | (exfalso; omega) | (have hT : True := hI; clear hT hI))))
        | (refine W.makeMap cx_ok (by simp only [push_cast, simprocAttr] <;> rfl) (by decide) ?_)
        | (apply jT cx_ok; decide; rfl; rfl; rfl; decide; (iterate 3 (simp (disch := (first | omega | (simp only [vC]; omega))) only [push_cast, simprocAttr, takeM, dropM, zK, zA, zB, zN, zQ, zR, zO, zP, zT, zS, zU, leT, zH, hS4, natNe, zI, zG, zJ, isEmpty_map, zV, zW, zC, zM, zY, zX, zE, zD, Nat.zero_add, hk4, hg4, hx4, hlook, hq] <;> rfl)); (first | (focus (simp; done)) | (intro c hc; obtain ⟨x, _, rfl⟩ := List.mem_map.1 hc; rfl)); ((first | rfl | simp (disch := omega) only [push_cast])); ((try dsimp only); (try simp only [vC]); omega); ((try dsimp only); (try simp only [vC]); omega))

      all_goals (refine ⟨rest4.length, ?_, k4 + 1, (O4 ++ [x]), rest4, rfl, hd4, (by rw [List.append_assoc]; exact hp14), (by rw [List.length_append, List.length_singleton]; omega), (by omega), ?_, ?_, ?_, ?_, ?_, ?_, ?_, ?_, ?_, ?_, ?_, ?_, ?_, ?_, ?_⟩; ((simp only [zD] at *; omega)); all_goals first | (simp (disch := omega) only [push_cast, simprocAttr, hS4, natNe, zI, zG, zJ, isEmpty_map, zV, zW, zC, zM, zY, zX, zE, zD, Nat.zero_add, hk4, hg4, hx4, hlook, hq] <;> first | rfl | omega) | omega)
  have hk4 := drop_nil hp04
  simp only [List.filter_nil, zZ] at hp14
  rw [hp14] at hS4
  have hif : (if r.s.stops.isEmpty = true then 0 else r.s.stops.length) ≤ r.s.stops.length := by split <;> omega
  obtain ⟨LO, hLO⟩ : ∃ z, (if r.s.stops.isEmpty = true then 0 else r.s.stops.length) = z := ⟨_, rfl⟩
  rw [hLO] at hS4 hif
  repeat' first
    | apply jA | apply jB | apply jC | apply jD | apply jE | apply jF | apply jG | apply jH | apply jI
    | ((first | (apply jK cx_ok; decide) | apply jM cx_ok | apply jR | apply jS cx_ok); (simp (disch := (first | omega | (simp only [vC]; omega))) only [push_cast, simprocAttr, takeM, dropM, zK, zA, zB, zN, zQ, zR, zO, zP, zT, zS, zU, leT, zH, hS4, natNe, zI, zG, zJ, isEmpty_map, zV, zW, zC, zM, hk4, hif] <;> rfl); all_goals try ((with_reducible intro hI); try first | (cases hI; done) | (simp only [INTS, zL] at hI; try first | (exfalso; omega) | (have hT : True := hI; clear hT hI))))
    | (refine W.makeMap cx_ok (by simp only [push_cast, simprocAttr] <;> rfl) (by decide) ?_)
    | (apply jT cx_ok; decide; rfl; rfl; rfl; decide; (iterate 3 (simp (disch := (first | omega | (simp only [vC]; omega))) only [push_cast, simprocAttr, takeM, dropM, zK, zA, zB, zN, zQ, zR, zO, zP, zT, zS, zU, leT, zH, hS4, natNe, zI, zG, zJ, isEmpty_map, zV, zW, zC, zM, hk4, hif] <;> rfl)); (first | (focus (simp; done)) | (intro c hc; obtain ⟨x, _, rfl⟩ := List.mem_map.1 hc; rfl)); ((first | rfl | simp (disch := omega) only [push_cast])); ((try dsimp only); (try simp only [vC]); omega); ((try dsimp only); (try simp only [vC]); omega))

  all_goals
    (apply W.retX (vs := [.agg (recA r.s (.ref (s0.nx + 1) 0 r.s.stops.length) (.ref (s0.nx + 2) 0 SS.length) (.ref (s0.nx + 3) 0 TT.length))])
     · (simp (disch := omega) only [push_cast, simprocAttr, hS4, natNe, zI, zG, zJ, isEmpty_map, zV, zW, zC, zM, hk4] <;> rfl)
     · exact ⟨s0.nx + 1, s0.nx + 2, s0.nx + 3, LO, rfl, (by simp (disch := omega) only [push_cast, simprocAttr, hS4, natNe, zI, zG, zJ, isEmpty_map, zV, zW, zC, zM, hk4] <;> rfl), hif, (by simp (disch := omega) only [push_cast, simprocAttr, hS4, natNe, zI, zG, zJ, isEmpty_map, zV, zW, zC, zM, hk4] <;> rfl), (by simp (disch := omega) only [push_cast, simprocAttr, hS4, natNe, zI, zG, zJ, isEmpty_map, zV, zW, zC, zM, hk4] <;> rfl), (by omega), (by omega), (by omega)⟩)
theorem mv_row (n k ty lo : Nat) (l : List (List AV)) (h : l.all pureL = true) : mvR n { k := k, es := l, ty := ty, lo := lo } = { k := k, es := l, ty := ty, lo := lo } := by
  unfold mvR
  dsimp only
  rw [mvLL_pure n h]
theorem mv_stop (n lo : Nat) (l : List Stop) : mvR n { k := 3, es := l.map eStop, ty := 68, lo := lo } = { k := 3, es := l.map eStop, ty := 68, lo := lo } := mv_row n 3 68 lo _ (pure_all eStop (fun _ => rfl) l)
theorem mv_strike (n lo : Nat) (l : List Strike) : mvR n { k := 3, es := l.map eStrike, ty := 60, lo := lo } = { k := 3, es := l.map eStrike, ty := 60, lo := lo } := mv_row n 3 60 lo _ (pure_all eStrike (fun _ => rfl) l)
theorem mv_sight (n lo : Nat) (l : List Sight) : mvR n { k := 3, es := l.map eSight, ty := 53, lo := lo } = { k := 3, es := l.map eSight, ty := 53, lo := lo } := mv_row n 3 53 lo _ (pure_all eSight (fun _ => rfl) l)
theorem mv_link (n lo : Nat) (l : List Lk) : mvR n { k := 3, es := l.map eLink, ty := 66, lo := lo } = { k := 3, es := l.map eLink, ty := 66, lo := lo } := mv_row n 3 66 lo _ (pure_all eLink (fun _ => rfl) l)
theorem Without_m (r : Rec) (ids : List Int) (hc : checkE r = 0) (hi : ids.length ≤ 1000000) : OKm cx 38 [.agg (eRec r), lInt ids] (fun _ => none) 0 (fun v H nx => ∃ u, v = .tup [u, ai 0] ∧ NewRec r.s (withoutR r ids).strikes (withoutR r ids).sights u H nx) := by
  have hv := checkE_V hc
  have hn1 := hv.nstrikes
  have hn2 := hv.nsights
  have hn3 := hv.nstops
  have hw := without_m r ids hi (by omega) (by omega) (by omega)
  obtain ⟨SS, hSS⟩ : ∃ z, (withoutR r ids).strikes = z := ⟨_, rfl⟩
  obtain ⟨TT, hTT⟩ : ∃ z, (withoutR r ids).sights = z := ⟨_, rfl⟩
  rw [hSS, hTT] at hw ⊢
  refine OKm.of_body cx_ok (rs := [.cell 4 30, .tmp 5]) Try.func38 rfl (by decide +kernel) rfl (by simp [Try.ntmps38]) ?_
  simp only [Try.ntmps38]
  repeat' first
    | apply jA | apply jB | apply jC | apply jD | apply jE | apply jF | apply jG | apply jH | apply jI
    | ((first | (apply jK cx_ok; decide) | apply jM cx_ok | apply jR); (simp (disch := omega) only [push_cast, simprocAttr, hc, natNe, zI, zG, zJ] <;> rfl); all_goals try ((with_reducible intro hI); try first | (cases hI; done) | (simp only [INTS, zL] at hI; try first | (exfalso; omega) | (have hT : True := hI; clear hT hI))))
    | ((apply jV cx_ok; decide); (iterate 2 (simp (disch := omega) only [push_cast, simprocAttr, hc, natNe, zI, zG, zJ] <;> rfl)); (with_reducible first | exact Check_ok r); try first | rfl | (simp (disch := omega) only [push_cast, simprocAttr, hc, natNe, zI, zG, zJ] <;> rfl))


  refine W.calla cx_ok (by decide) (by simp (disch := omega) only [push_cast, simprocAttr, hc, natNe, zI, zG, zJ] <;> rfl) (by simp (disch := omega) only [push_cast, simprocAttr, hc, natNe, zI, zG, zJ] <;> rfl) (by simp (disch := omega) only [push_cast, simprocAttr, hc, natNe, zI, zG, zJ] <;> rfl) hw ?_
  rintro _ H1 nx1 ⟨x, y, z, la, rfl, q1, hla, q2, q3, d1, d2, d3⟩ hnone
  repeat' first
    | apply jA | apply jB | apply jC | apply jD | apply jE | apply jF | apply jG | apply jH | apply jI
    | ((first | (apply jK cx_ok; decide) | apply jM cx_ok | apply jR); (simp (disch := omega) only [push_cast, simprocAttr, hc, q1, q2, q3, natNe, zI, zG, zJ, mvA_v, mvA_lst, mvA_ref, mvA_agg, mvA_tup, mvL_nil, mvL_cons, rowAt_merge1, rowAt_merge2, recA] <;> rfl); all_goals try ((with_reducible intro hI); try first | (cases hI; done) | (simp only [INTS, zL] at hI; try first | (exfalso; omega) | (have hT : True := hI; clear hT hI))))


  all_goals
    (apply W.retX (vs := [.agg (recA r.s (.ref (2 + x) 0 r.s.stops.length) (.ref (2 + y) 0 SS.length) (.ref (2 + z) 0 TT.length)), ai 0])
     · (simp (disch := omega) only [push_cast, simprocAttr, hc, q1, q2, q3, natNe, zI, zG, zJ, mvA_v, mvA_lst, mvA_ref, mvA_agg, mvA_tup, mvL_nil, mvL_cons, rowAt_merge1, rowAt_merge2, recA, Option.map_some, mv_stop, mv_strike, mv_sight, mv_link] <;> rfl)
     · exact ⟨_, rfl, 2 + x, 2 + y, 2 + z, la, rfl, (by simp (disch := omega) only [push_cast, simprocAttr, hc, q1, q2, q3, natNe, zI, zG, zJ, mvA_v, mvA_lst, mvA_ref, mvA_agg, mvA_tup, mvL_nil, mvL_cons, rowAt_merge1, rowAt_merge2, recA, Option.map_some, mv_stop, mv_strike, mv_sight, mv_link] <;> rfl), hla, (by simp (disch := omega) only [push_cast, simprocAttr, hc, q1, q2, q3, natNe, zI, zG, zJ, mvA_v, mvA_lst, mvA_ref, mvA_agg, mvA_tup, mvL_nil, mvL_cons, rowAt_merge1, rowAt_merge2, recA, Option.map_some, mv_stop, mv_strike, mv_sight, mv_link] <;> rfl), (by simp (disch := omega) only [push_cast, simprocAttr, hc, q1, q2, q3, natNe, zI, zG, zJ, mvA_v, mvA_lst, mvA_ref, mvA_agg, mvA_tup, mvL_nil, mvL_cons, rowAt_merge1, rowAt_merge2, recA, Option.map_some, mv_stop, mv_strike, mv_sight, mv_link] <;> rfl), (by omega), (by omega), (by omega)⟩)
end Go.Proofs.Ks
