/-
  Contracts of functions, proved by going through their code. No conditions.
-/
import Derived.Test.YtdlflcambboojaaVaa
import Derived.Test.YtdlflcambboojaaVaz
import Derived.Test.YtdlflcambboojaaVbb
import Derived.Test.YtdlflcambboojaaVbc
set_option linter.unusedVariables false
set_option linter.unusedSimpArgs false
set_option maxHeartbeats 8000000
set_option maxRecDepth 10000
namespace Go.Proofs.Ks
open Go Go.Pg Go.Proofs
theorem rowAt_afterH (H : Nat → Option AO) (ids : List Nat) (r : AV) (j : Nat) : Pg.rowAt (afterH H ids r) j = if flatA r = true then Pg.rowAt H j else if j ∈ ids then (Pg.rowAt H j).map (fun r => { r with fro := true }) else Pg.rowAt H j := by
  unfold afterH
  split
  · rfl
  · have := rowAt_frzG H ids j
    unfold frz' at this
    exact this
def stF (r : Rec) (k : Nat) : List Int := ((r.strikes.take k).filter fun x => consP (withoutR r [x.id]) []).map (·.id)
def sgF (r : Rec) (k : Nat) : List Int := ((List.range k).filter fun i => consP (unseenR r i) []).map fun (i : Nat) => (i : Int)
theorem stF_succ {r : Rec} {k : Nat} {x : Strike} {rest : List Strike} (h : r.strikes.drop k = x :: rest) : stF r (k + 1) = stF r k ++ (if consP (withoutR r [x.id]) [] = true then [x.id] else []) := by
  unfold stF
  rw [take_snoc h, List.filter_append, List.map_append]
  congr 1
  cases hq : consP (withoutR r [x.id]) [] <;> simp [hq]
theorem sgF_succ (r : Rec) (k : Nat) : sgF r (k + 1) = sgF r k ++ (if consP (unseenR r k) [] = true then [(k : Int)] else []) := by
  unfold sgF
  rw [List.range_succ, List.filter_append, List.map_append]
  congr 1
  cases hq : consP (unseenR r k) [] <;> simp [hq]
def suspP (r : Rec) : List Int × List Int := ((stF r r.strikes.length).mergeSort fun x y => decide (x ≤ y), sgF r r.sights.length)
theorem conP_ok (r : Rec) (hc : checkE r = 0) : OKv cx 87 [.agg (eRec r), .lst []] (gSys (nodesR r []) (linksR r [])) ∧ OKv cx 98 [gSys (nodesR r []) (linksR r [])] (ab (consP r [])) := by
  have hv := checkE_V hc
  obtain ⟨h1, h2, h3, h4, h5⟩ := links_facts (more := []) hv (by decide) nomore
  exact ⟨build_ok r [] hv (by decide) nomore, consistent_ok _ _ h1 h2 h3 h4⟩
theorem Suspects_some (r : Rec) (hc : checkE r = 0) (hq : consP r [] = false) : OKv cx 48 [.agg (eRec r)] (.tup [lInt (suspP r).1, lInt (suspP r).2, ai 0]) := by
  obtain ⟨hb, hco⟩ := conP_ok r hc
  rw [hq] at hco
  have hv := checkE_V hc
  have hn1 := hv.nstrikes
  have hn2 := hv.nsights
  have hn3 := hv.nstops
  unfold suspP
  refine OKat.of_body (rs := [2, 3, 4]) Try.func48 rfl (by decide +kernel) rfl (by simp [Try.ntmps48]) ?_
  simp only [Try.ntmps48]
  repeat' first
    | apply jA | apply jB | apply jC | apply jD | apply jE | apply jF | apply jG | apply jH | apply jI
    | ((first | (apply jK cx_ok; decide) | apply jM cx_ok | apply jR); (simp (disch := (first | omega | (simp only [vC]; omega))) only [push_cast, simprocAttr, takeM, dropM, zK, zA, zB, zN, zQ, zR, zO, zP, zT, zS, zU, leT, zH, hc] <;> rfl); all_goals try ((with_reducible intro hI); try first | (cases hI; done) | (simp only [INTS, zL] at hI; try first | (exfalso; omega) | (have hT : True := hI; clear hT hI))))
    | (apply jT cx_ok; decide; rfl; rfl; rfl; decide; (iterate 3 (simp (disch := (first | omega | (simp only [vC]; omega))) only [push_cast, simprocAttr, takeM, dropM, zK, zA, zB, zN, zQ, zR, zO, zP, zT, zS, zU, leT, zH, hc] <;> rfl)); (first | (focus (simp; done)) | (intro c hc; obtain ⟨x, _, rfl⟩ := List.mem_map.1 hc; rfl)); ((first | rfl | simp (disch := omega) only [push_cast])); ((try dsimp only); (try simp only [vC]); omega); ((try dsimp only); (try simp only [vC]); omega))
    | ((apply jV cx_ok; decide); (iterate 2 (simp (disch := (first | omega | (simp only [vC]; omega))) only [push_cast, simprocAttr, takeM, dropM, zK, zA, zB, zN, zQ, zR, zO, zP, zT, zS, zU, leT, zH, hc] <;> rfl)); (with_reducible first | exact Check_ok r | exact hb | exact hco); try first | rfl | (simp (disch := (first | omega | (simp only [vC]; omega))) only [push_cast, simprocAttr, takeM, dropM, zK, zA, zB, zN, zQ, zR, zO, zP, zT, zS, zU, leT, zH, hc] <;> rfl))
    | ((first | apply jj | apply jk); (iterate 2 (try (simp (disch := (first | omega | (simp only [vC]; omega))) only [push_cast, simprocAttr, takeM, dropM, zK, zA, zB, zN, zQ, zR, zO, zP, zT, zS, zU, leT, zH, hc] <;> rfl))))

  refine AW.adopt 6 1 3 ?_ ?_
  · (simp (disch := omega) only [push_cast, simprocAttr, hc])
  refine AW.adopt 7 1 3 ?_ ?_
  · (simp (disch := omega) only [push_cast, simprocAttr, hc])
  refine AW.loop (fun n s => ∃ (k : Nat) (rest : List Strike), n = rest.length ∧ (r.strikes.drop k = rest) ∧ (k ≤ r.strikes.length) ∧ ((stF r k).length ≤ k) ∧ 3 ≤ s.nx ∧ s.tm 1 = .ptr 0 0 0 1 ∧ s.tm 6 = .ref 1 0 (stF r k).length ∧ s.tm 7 = .ref 2 0 0 ∧ s.tm 20 = lStrike r.strikes ∧ s.tm 21 = ai r.strikes.length ∧ s.tm 22 = ai k ∧ Pg.rowAt s.H (0) = some ({ k := 14, es := [eRec r], ty := 30 }) ∧ Pg.rowAt s.H (1) = some ({ k := 1, es := (stF r k).map eInt, ty := 3, lo := (stF r k).length }) ∧ Pg.rowAt s.H (2) = some ({ k := 1, es := [], ty := 3 })) (r.strikes.length) ⟨0, r.strikes, rfl, rfl, (Nat.zero_le _), (Nat.le_refl _), ?_, ?_, ?_, ?_, ?_, ?_, ?_, ?_, ?_, ?_⟩ ?_
  iterate 10 (first | (simp (disch := omega) only [push_cast, simprocAttr, natNe, zI, zG, zJ, isEmpty_map, zV, zW, zC, zM, zY, zX, zE, zD, stF, List.take_zero, List.filter_nil] <;> first | rfl | omega) | omega)
  rintro n0 s0 ⟨k0, rest0, hn0, hp00, hp10, hp20, hnl0, hS0⟩
  have hZ0 : (0 : Nat) ≠ s0.nx ∧ s0.nx ≠ (0 : Nat) ∧ (1 : Nat) ≠ s0.nx ∧ s0.nx ≠ (1 : Nat) ∧ (2 : Nat) ≠ s0.nx ∧ s0.nx ≠ (2 : Nat) := by omega
  rcases rest0 with _ | ⟨x, rest0⟩
  rotate_left
  · obtain ⟨hk, hg, hd', hl', hm', hx⟩ := drop_cons hp00 eStrike []
    have hwo : OKv cx 95 [.agg (eRec r), .lst [[ai x.id]]] (.agg (eRec (withoutR r [x.id]))) := without_ok r [x.id] (by simp) (by omega) (by omega) (by omega)
    obtain ⟨hbd, hcd⟩ := conP_ok (withoutR r [x.id]) (without_zero hc [x.id])
    have hsu := stF_succ hp00
    obtain ⟨R2, hR2⟩ : ∃ z, withoutR r [x.id] = z := ⟨_, rfl⟩
    rw [hR2] at hwo hbd hcd hsu
    have hfl : flatA (.agg (eRec R2)) = false := rfl
    cases hb2 : consP R2 [] with
    | true =>
      rw [hb2] at hcd
      rw [hb2, if_pos rfl] at hsu
      repeat' first
        | apply jA | apply jB | apply jC | apply jD | apply jE | apply jF | apply jG | apply jH | apply jI
        | ((first | (apply jK cx_ok; decide) | apply jM cx_ok | apply jR); (simp (disch := (first | omega | (simp only [vC]; omega))) only [push_cast, simprocAttr, takeM, dropM, zK, zA, zB, zN, zQ, zR, zO, zP, zT, zS, zU, leT, zH, hS0, hZ0, hk, hg, hx, natNe, zI, zG, zJ, isEmpty_map, zV, zW, zC, zM, zY, zX, zE, zD, hfl, rowAt_afterH, St.back, idsL, idsA, idsLL, yB, yA] <;> rfl); all_goals try ((with_reducible intro hI); try first | (cases hI; done) | (simp only [INTS, zL] at hI; try first | (exfalso; omega) | (have hT : True := hI; clear hT hI))))
        | (apply jT cx_ok; decide; rfl; rfl; rfl; decide; (iterate 3 (simp (disch := (first | omega | (simp only [vC]; omega))) only [push_cast, simprocAttr, takeM, dropM, zK, zA, zB, zN, zQ, zR, zO, zP, zT, zS, zU, leT, zH, hS0, hZ0, hk, hg, hx, natNe, zI, zG, zJ, isEmpty_map, zV, zW, zC, zM, zY, zX, zE, zD, hfl, rowAt_afterH, St.back, idsL, idsA, idsLL, yB, yA] <;> rfl)); (first | (focus (simp; done)) | (intro c hc; obtain ⟨x, _, rfl⟩ := List.mem_map.1 hc; rfl)); ((first | rfl | simp (disch := omega) only [push_cast])); ((try dsimp only); (try simp only [vC]); omega); ((try dsimp only); (try simp only [vC]); omega))
        | ((apply jV cx_ok; decide); (iterate 2 (simp (disch := (first | omega | (simp only [vC]; omega))) only [push_cast, simprocAttr, takeM, dropM, zK, zA, zB, zN, zQ, zR, zO, zP, zT, zS, zU, leT, zH, hS0, hZ0, hk, hg, hx, natNe, zI, zG, zJ, isEmpty_map, zV, zW, zC, zM, zY, zX, zE, zD, hfl, rowAt_afterH, St.back, idsL, idsA, idsLL, yB, yA] <;> rfl)); (with_reducible first | exact hwo | exact hbd | exact hcd); try first | rfl | (simp (disch := (first | omega | (simp only [vC]; omega))) only [push_cast, simprocAttr, takeM, dropM, zK, zA, zB, zN, zQ, zR, zO, zP, zT, zS, zU, leT, zH, hS0, hZ0, hk, hg, hx, natNe, zI, zG, zJ, isEmpty_map, zV, zW, zC, zM, zY, zX, zE, zD, hfl, rowAt_afterH, St.back, idsL, idsA, idsLL, yB, yA] <;> rfl))
        | ((first | apply jj | apply jk); (iterate 2 (try (simp (disch := (first | omega | (simp only [vC]; omega))) only [push_cast, simprocAttr, takeM, dropM, zK, zA, zB, zN, zQ, zR, zO, zP, zT, zS, zU, leT, zH, hS0, hZ0, hk, hg, hx, natNe, zI, zG, zJ, isEmpty_map, zV, zW, zC, zM, zY, zX, zE, zD, hfl, rowAt_afterH, St.back, idsL, idsA, idsLL, yB, yA] <;> rfl))))

      all_goals (refine ⟨rest0.length, ?_, k0 + 1, rest0, rfl, hd', (by omega), (by rw [hsu, List.length_append, List.length_singleton]; omega), ?_, ?_, ?_, ?_, ?_, ?_, ?_, ?_, ?_, ?_⟩; ((simp only [zD] at *; omega)); all_goals first | (simp (disch := omega) only [push_cast, simprocAttr, hS0, hZ0, hk, hg, hx, hsu, natNe, zI, zG, zJ, isEmpty_map, zV, zW, zC, zM, zY, zX, zE, zD, hfl, rowAt_afterH, St.back, idsL, idsA, idsLL, yB, yA] <;> first | rfl | omega) | omega)
    | false =>
      rw [hb2] at hcd
      rw [hb2, if_neg (by decide), List.append_nil] at hsu
      repeat' first
        | apply jA | apply jB | apply jC | apply jD | apply jE | apply jF | apply jG | apply jH | apply jI
        | ((first | (apply jK cx_ok; decide) | apply jM cx_ok | apply jR); (simp (disch := (first | omega | (simp only [vC]; omega))) only [push_cast, simprocAttr, takeM, dropM, zK, zA, zB, zN, zQ, zR, zO, zP, zT, zS, zU, leT, zH, hS0, hZ0, hk, hg, hx, natNe, zI, zG, zJ, isEmpty_map, zV, zW, zC, zM, zY, zX, zE, zD, hfl, rowAt_afterH, St.back, idsL, idsA, idsLL, yB, yA] <;> rfl); all_goals try ((with_reducible intro hI); try first | (cases hI; done) | (simp only [INTS, zL] at hI; try first | (exfalso; omega) | (have hT : True := hI; clear hT hI))))
        | (apply jT cx_ok; decide; rfl; rfl; rfl; decide; (iterate 3 (simp (disch := (first | omega | (simp only [vC]; omega))) only [push_cast, simprocAttr, takeM, dropM, zK, zA, zB, zN, zQ, zR, zO, zP, zT, zS, zU, leT, zH, hS0, hZ0, hk, hg, hx, natNe, zI, zG, zJ, isEmpty_map, zV, zW, zC, zM, zY, zX, zE, zD, hfl, rowAt_afterH, St.back, idsL, idsA, idsLL, yB, yA] <;> rfl)); (first | (focus (simp; done)) | (intro c hc; obtain ⟨x, _, rfl⟩ := List.mem_map.1 hc; rfl)); ((first | rfl | simp (disch := omega) only [push_cast])); ((try dsimp only); (try simp only [vC]); omega); ((try dsimp only); (try simp only [vC]); omega))
        | ((apply jV cx_ok; decide); (iterate 2 (simp (disch := (first | omega | (simp only [vC]; omega))) only [push_cast, simprocAttr, takeM, dropM, zK, zA, zB, zN, zQ, zR, zO, zP, zT, zS, zU, leT, zH, hS0, hZ0, hk, hg, hx, natNe, zI, zG, zJ, isEmpty_map, zV, zW, zC, zM, zY, zX, zE, zD, hfl, rowAt_afterH, St.back, idsL, idsA, idsLL, yB, yA] <;> rfl)); (with_reducible first | exact hwo | exact hbd | exact hcd); try first | rfl | (simp (disch := (first | omega | (simp only [vC]; omega))) only [push_cast, simprocAttr, takeM, dropM, zK, zA, zB, zN, zQ, zR, zO, zP, zT, zS, zU, leT, zH, hS0, hZ0, hk, hg, hx, natNe, zI, zG, zJ, isEmpty_map, zV, zW, zC, zM, zY, zX, zE, zD, hfl, rowAt_afterH, St.back, idsL, idsA, idsLL, yB, yA] <;> rfl))
        | ((first | apply jj | apply jk); (iterate 2 (try (simp (disch := (first | omega | (simp only [vC]; omega))) only [push_cast, simprocAttr, takeM, dropM, zK, zA, zB, zN, zQ, zR, zO, zP, zT, zS, zU, leT, zH, hS0, hZ0, hk, hg, hx, natNe, zI, zG, zJ, isEmpty_map, zV, zW, zC, zM, zY, zX, zE, zD, hfl, rowAt_afterH, St.back, idsL, idsA, idsLL, yB, yA] <;> rfl))))

      all_goals (refine ⟨rest0.length, ?_, k0 + 1, rest0, rfl, hd', (by omega), (by rw [hsu]; omega), ?_, ?_, ?_, ?_, ?_, ?_, ?_, ?_, ?_, ?_⟩; ((simp only [zD] at *; omega)); all_goals first | (simp (disch := omega) only [push_cast, simprocAttr, hS0, hZ0, hk, hg, hx, hsu, natNe, zI, zG, zJ, isEmpty_map, zV, zW, zC, zM, zY, zX, zE, zD, hfl, rowAt_afterH, St.back, idsL, idsA, idsLL, yB, yA] <;> first | rfl | omega) | omega)
  have hk := drop_nil hp00
  have hkS : k0 = r.strikes.length := by have := List.drop_eq_nil_iff.1 hp00; omega
  subst hkS
  obtain ⟨ST, hST⟩ : ∃ z, stF r r.strikes.length = z := ⟨_, rfl⟩
  rw [hST] at hS0 hp20 ⊢
  have hsl : (ST.mergeSort fun x y => decide (x ≤ y)).length = ST.length := List.length_mergeSort _
  have hs1 : ∀ {args : List AV} {H : Nat → Option AO} {m : Nat}, args = [.ref 1 0 ST.length] → Pg.rowAt H 1 = some { k := 1, es := ST.map eInt, ty := 3, lo := ST.length } →
      OKm cx 99 args H m (fun v H' nx' => v = .tup [] ∧ (∀ j, j ≠ 1 → H' j = H j) ∧ Pg.rowAt H' 1 = some { k := 1, es := (ST.mergeSort fun x y => decide (x ≤ y)).map eInt, ty := 3, lo := ST.length } ∧ nx' = m) := by
    rintro _ H m rfl h
    rcases ST with _ | ⟨y, ST⟩
    · refine OKm.mono (OKm.sorts0 ⟨_, Try.func99, by decide +kernel, rfl⟩ sort99_0) ?_
      rintro v H' nx' ⟨rfl, rfl, rfl⟩
      exact ⟨rfl, fun _ _ => rfl, by simpa using h, rfl⟩
    · refine OKm.mono (OKm.sorts ⟨_, Try.func99, by decide +kernel, rfl⟩ sort99 (by simp) (by omega) h) ?_
      rintro v H' nx' ⟨rfl, rfl, rfl⟩
      exact ⟨rfl, fun j hj => by simp only [updH]; rw [if_neg hj], by simp [Pg.rowAt, updH], rfl⟩
  obtain ⟨SL, hSL⟩ : ∃ z, ST.mergeSort (fun x y => decide (x ≤ y)) = z := ⟨_, rfl⟩
  rw [hSL] at hsl hs1 ⊢
  repeat' first
    | apply jA | apply jB | apply jC | apply jD | apply jE | apply jF | apply jG | apply jH | apply jI
    | ((first | (apply jK cx_ok; decide) | apply jM cx_ok | apply jR); (simp (disch := (first | omega | (simp only [vC]; omega))) only [push_cast, simprocAttr, takeM, dropM, zK, zA, zB, zN, zQ, zR, zO, zP, zT, zS, zU, leT, zH, hS0, hZ0, hk, natNe, zI, zG, zJ, isEmpty_map, zV, zW, zC, zM, zY, zX, zE, zD] <;> rfl); all_goals try ((with_reducible intro hI); try first | (cases hI; done) | (simp only [INTS, zL] at hI; try first | (exfalso; omega) | (have hT : True := hI; clear hT hI))))
    | (apply jT cx_ok; decide; rfl; rfl; rfl; decide; (iterate 3 (simp (disch := (first | omega | (simp only [vC]; omega))) only [push_cast, simprocAttr, takeM, dropM, zK, zA, zB, zN, zQ, zR, zO, zP, zT, zS, zU, leT, zH, hS0, hZ0, hk, natNe, zI, zG, zJ, isEmpty_map, zV, zW, zC, zM, zY, zX, zE, zD] <;> rfl)); (first | (focus (simp; done)) | (intro c hc; obtain ⟨x, _, rfl⟩ := List.mem_map.1 hc; rfl)); ((first | rfl | simp (disch := omega) only [push_cast])); ((try dsimp only); (try simp only [vC]); omega); ((try dsimp only); (try simp only [vC]); omega))
    | ((first | apply jj | apply jk); (iterate 2 (try (simp (disch := (first | omega | (simp only [vC]; omega))) only [push_cast, simprocAttr, takeM, dropM, zK, zA, zB, zN, zQ, zR, zO, zP, zT, zS, zU, leT, zH, hS0, hZ0, hk, natNe, zI, zG, zJ, isEmpty_map, zV, zW, zC, zM, zY, zX, zE, zD] <;> rfl))))

  refine W.callm cx_ok (by decide) (f := 99) (caps := []) (by simp (disch := omega) only [push_cast, simprocAttr, hS0, hZ0, hk, natNe, zI, zG, zJ, isEmpty_map, zV, zW, zC, zM, zY, zX, zE, zD] <;> rfl) (hs1 (by simp (disch := omega) only [push_cast, simprocAttr, hS0, hZ0, hk, natNe, zI, zG, zJ, isEmpty_map, zV, zW, zC, zM, zY, zX, zE, zD] <;> rfl) (by simp (disch := omega) only [push_cast, simprocAttr, hS0, hZ0, hk, natNe, zI, zG, zJ, isEmpty_map, zV, zW, zC, zM, zY, zX, zE, zD] <;> rfl)) ?_
  rintro _ H3 nx3 ⟨rfl, hf3, hr3, hn3'⟩
  replace hn3' : nx3 = s0.nx := hn3'
  replace hf3 : ∀ j, j ≠ 1 → H3 j = s0.H j := hf3
  have q0 : Pg.rowAt H3 0 = some { k := 14, es := [eRec r], ty := 30 } := (rowAt_eqH (hf3 0 (by decide))).trans (by simp (disch := omega) only [push_cast, simprocAttr, hS0, hZ0])
  have q2 : Pg.rowAt H3 2 = some { k := 1, es := [], ty := 3 } := (rowAt_eqH (hf3 2 (by decide))).trans (by simp (disch := omega) only [push_cast, simprocAttr, hS0, hZ0])
  obtain ⟨SN, hSN⟩ : ∃ z, ST.length = z := ⟨_, rfl⟩
  rw [hSN] at hsl hr3
  have hSL2 : SL.length = SN := hsl
  repeat' first
    | apply jA | apply jB | apply jC | apply jD | apply jE | apply jF | apply jG | apply jH | apply jI
    | ((first | (apply jK cx_ok; decide) | apply jM cx_ok | apply jR); (simp (disch := (first | omega | (simp only [vC]; omega))) only [push_cast, simprocAttr, takeM, dropM, zK, zA, zB, zN, zQ, zR, zO, zP, zT, zS, zU, leT, zH, hS0, hk, q0, q2, hr3, natNe, zI, zG, zJ, isEmpty_map, zV, zW, zC, zM, zY, zX, zE, zD] <;> rfl); all_goals try ((with_reducible intro hI); try first | (cases hI; done) | (simp only [INTS, zL] at hI; try first | (exfalso; omega) | (have hT : True := hI; clear hT hI))))
    | (apply jT cx_ok; decide; rfl; rfl; rfl; decide; (iterate 3 (simp (disch := (first | omega | (simp only [vC]; omega))) only [push_cast, simprocAttr, takeM, dropM, zK, zA, zB, zN, zQ, zR, zO, zP, zT, zS, zU, leT, zH, hS0, hk, q0, q2, hr3, natNe, zI, zG, zJ, isEmpty_map, zV, zW, zC, zM, zY, zX, zE, zD] <;> rfl)); (first | (focus (simp; done)) | (intro c hc; obtain ⟨x, _, rfl⟩ := List.mem_map.1 hc; rfl)); ((first | rfl | simp (disch := omega) only [push_cast])); ((try dsimp only); (try simp only [vC]); omega); ((try dsimp only); (try simp only [vC]); omega))
    | ((first | apply jj | apply jk); (iterate 2 (try (simp (disch := (first | omega | (simp only [vC]; omega))) only [push_cast, simprocAttr, takeM, dropM, zK, zA, zB, zN, zQ, zR, zO, zP, zT, zS, zU, leT, zH, hS0, hk, q0, q2, hr3, natNe, zI, zG, zJ, isEmpty_map, zV, zW, zC, zM, zY, zX, zE, zD] <;> rfl))))

  refine AW.loop (fun n s => ∃ (k : Nat), n = r.sights.length - k ∧ (k ≤ r.sights.length) ∧ ((sgF r k).length ≤ k) ∧ 3 ≤ s.nx ∧ s.tm 1 = .ptr 0 0 0 1 ∧ s.tm 6 = .ref 1 0 SL.length ∧ s.tm 7 = .ref 2 0 (sgF r k).length ∧ s.tm 43 = ai r.sights.length ∧ s.tm 44 = ai k ∧ Pg.rowAt s.H (0) = some ({ k := 14, es := [eRec r], ty := 30 }) ∧ Pg.rowAt s.H (1) = some ({ k := 1, es := SL.map eInt, ty := 3, lo := SN }) ∧ Pg.rowAt s.H (2) = some ({ k := 1, es := (sgF r k).map eInt, ty := 3, lo := (sgF r k).length })) (r.sights.length) ⟨0, rfl, (Nat.zero_le _), (Nat.le_refl _), ?_, ?_, ?_, ?_, ?_, ?_, ?_, ?_, ?_⟩ ?_
  iterate 9 (first | (simp (disch := omega) only [push_cast, simprocAttr, hS0, hk, q0, q2, hr3, hSN, hSL2, sgF, List.range_zero, List.filter_nil, natNe, zI, zG, zJ, isEmpty_map, zV, zW, zC, zM, zY, zX, zE, zD] <;> first | rfl | omega) | omega)
  rintro n2 s2 ⟨k2, hn2, hp02, hp12, hnl2, hS2⟩
  have hZ2 : (0 : Nat) ≠ s2.nx ∧ s2.nx ≠ (0 : Nat) ∧ (1 : Nat) ≠ s2.nx ∧ s2.nx ≠ (1 : Nat) ∧ (2 : Nat) ≠ s2.nx ∧ s2.nx ≠ (2 : Nat) := by omega
  by_cases hk2 : k2 < r.sights.length
  · have hkI : (k2 : Int) < (r.sights.length : Int) := by omega
    have hun := unseen_ok r k2 hk2 (by omega)
    obtain ⟨hbd, hcd⟩ := conP_ok (unseenR r k2) (unseen_zero hc k2)
    have hsu := sgF_succ r k2
    obtain ⟨R2, hR2⟩ : ∃ z, unseenR r k2 = z := ⟨_, rfl⟩
    rw [hR2] at hun hbd hcd hsu
    cases hb2 : consP R2 [] with
    | true =>
      rw [hb2] at hcd
      rw [hb2, if_pos rfl] at hsu
      repeat' first
        | apply jA | apply jB | apply jC | apply jD | apply jE | apply jF | apply jG | apply jH | apply jI
        | ((first | (apply jK cx_ok; decide) | apply jM cx_ok | apply jR); (simp (disch := (first | omega | (simp only [vC]; omega))) only [push_cast, simprocAttr, takeM, dropM, zK, zA, zB, zN, zQ, zR, zO, zP, zT, zS, zU, leT, zH, hS2, hZ2, hkI, natNe, zI, zG, zJ, isEmpty_map, zV, zW, zC, zM, zY, zX, zE, zD] <;> rfl); all_goals try ((with_reducible intro hI); try first | (cases hI; done) | (simp only [INTS, zL] at hI; try first | (exfalso; omega) | (have hT : True := hI; clear hT hI))))
        | (apply jT cx_ok; decide; rfl; rfl; rfl; decide; (iterate 3 (simp (disch := (first | omega | (simp only [vC]; omega))) only [push_cast, simprocAttr, takeM, dropM, zK, zA, zB, zN, zQ, zR, zO, zP, zT, zS, zU, leT, zH, hS2, hZ2, hkI, natNe, zI, zG, zJ, isEmpty_map, zV, zW, zC, zM, zY, zX, zE, zD] <;> rfl)); (first | (focus (simp; done)) | (intro c hc; obtain ⟨x, _, rfl⟩ := List.mem_map.1 hc; rfl)); ((first | rfl | simp (disch := omega) only [push_cast])); ((try dsimp only); (try simp only [vC]); omega); ((try dsimp only); (try simp only [vC]); omega))
        | ((apply jV cx_ok; decide); (iterate 2 (simp (disch := (first | omega | (simp only [vC]; omega))) only [push_cast, simprocAttr, takeM, dropM, zK, zA, zB, zN, zQ, zR, zO, zP, zT, zS, zU, leT, zH, hS2, hZ2, hkI, natNe, zI, zG, zJ, isEmpty_map, zV, zW, zC, zM, zY, zX, zE, zD] <;> rfl)); (with_reducible first | exact hun | exact hbd | exact hcd); try first | rfl | (simp (disch := (first | omega | (simp only [vC]; omega))) only [push_cast, simprocAttr, takeM, dropM, zK, zA, zB, zN, zQ, zR, zO, zP, zT, zS, zU, leT, zH, hS2, hZ2, hkI, natNe, zI, zG, zJ, isEmpty_map, zV, zW, zC, zM, zY, zX, zE, zD] <;> rfl))
        | ((first | apply jj | apply jk); (iterate 2 (try (simp (disch := (first | omega | (simp only [vC]; omega))) only [push_cast, simprocAttr, takeM, dropM, zK, zA, zB, zN, zQ, zR, zO, zP, zT, zS, zU, leT, zH, hS2, hZ2, hkI, natNe, zI, zG, zJ, isEmpty_map, zV, zW, zC, zM, zY, zX, zE, zD] <;> rfl))))

      all_goals (refine ⟨r.sights.length - (k2 + 1), ?_, k2 + 1, rfl, (by omega), (by rw [hsu, List.length_append, List.length_singleton]; omega), ?_, ?_, ?_, ?_, ?_, ?_, ?_, ?_, ?_⟩; (omega); all_goals first | (simp (disch := omega) only [push_cast, simprocAttr, hS2, hZ2, hkI, hsu, natNe, zI, zG, zJ, isEmpty_map, zV, zW, zC, zM, zY, zX, zE, zD] <;> first | rfl | omega) | omega)
    | false =>
      rw [hb2] at hcd
      rw [hb2, if_neg (by decide), List.append_nil] at hsu
      repeat' first
        | apply jA | apply jB | apply jC | apply jD | apply jE | apply jF | apply jG | apply jH | apply jI
        | ((first | (apply jK cx_ok; decide) | apply jM cx_ok | apply jR); (simp (disch := (first | omega | (simp only [vC]; omega))) only [push_cast, simprocAttr, takeM, dropM, zK, zA, zB, zN, zQ, zR, zO, zP, zT, zS, zU, leT, zH, hS2, hZ2, hkI, natNe, zI, zG, zJ, isEmpty_map, zV, zW, zC, zM, zY, zX, zE, zD] <;> rfl); all_goals try ((with_reducible intro hI); try first | (cases hI; done) | (simp only [INTS, zL] at hI; try first | (exfalso; omega) | (have hT : True := hI; clear hT hI))))
        | (apply jT cx_ok; decide; rfl; rfl; rfl; decide; (iterate 3 (simp (disch := (first | omega | (simp only [vC]; omega))) only [push_cast, simprocAttr, takeM, dropM, zK, zA, zB, zN, zQ, zR, zO, zP, zT, zS, zU, leT, zH, hS2, hZ2, hkI, natNe, zI, zG, zJ, isEmpty_map, zV, zW, zC, zM, zY, zX, zE, zD] <;> rfl)); (first | (focus (simp; done)) | (intro c hc; obtain ⟨x, _, rfl⟩ := List.mem_map.1 hc; rfl)); ((first | rfl | simp (disch := omega) only [push_cast])); ((try dsimp only); (try simp only [vC]); omega); ((try dsimp only); (try simp only [vC]); omega))
        | ((apply jV cx_ok; decide); (iterate 2 (simp (disch := (first | omega | (simp only [vC]; omega))) only [push_cast, simprocAttr, takeM, dropM, zK, zA, zB, zN, zQ, zR, zO, zP, zT, zS, zU, leT, zH, hS2, hZ2, hkI, natNe, zI, zG, zJ, isEmpty_map, zV, zW, zC, zM, zY, zX, zE, zD] <;> rfl)); (with_reducible first | exact hun | exact hbd | exact hcd); try first | rfl | (simp (disch := (first | omega | (simp only [vC]; omega))) only [push_cast, simprocAttr, takeM, dropM, zK, zA, zB, zN, zQ, zR, zO, zP, zT, zS, zU, leT, zH, hS2, hZ2, hkI, natNe, zI, zG, zJ, isEmpty_map, zV, zW, zC, zM, zY, zX, zE, zD] <;> rfl))
        | ((first | apply jj | apply jk); (iterate 2 (try (simp (disch := (first | omega | (simp only [vC]; omega))) only [push_cast, simprocAttr, takeM, dropM, zK, zA, zB, zN, zQ, zR, zO, zP, zT, zS, zU, leT, zH, hS2, hZ2, hkI, natNe, zI, zG, zJ, isEmpty_map, zV, zW, zC, zM, zY, zX, zE, zD] <;> rfl))))

      all_goals (refine ⟨r.sights.length - (k2 + 1), ?_, k2 + 1, rfl, (by omega), (by rw [hsu]; omega), ?_, ?_, ?_, ?_, ?_, ?_, ?_, ?_, ?_⟩; (omega); all_goals first | (simp (disch := omega) only [push_cast, simprocAttr, hS2, hZ2, hkI, hsu, natNe, zI, zG, zJ, isEmpty_map, zV, zW, zC, zM, zY, zX, zE, zD] <;> first | rfl | omega) | omega)
  have hkI : ¬ (k2 : Int) < (r.sights.length : Int) := by omega
  have hkS : k2 = r.sights.length := by omega
  subst hkS
  have hSN2 : SN ≤ SL.length := by omega
  repeat' first
    | apply jA | apply jB | apply jC | apply jD | apply jE | apply jF | apply jG | apply jH | apply jI
    | ((first | (apply jK cx_ok; decide) | apply jM cx_ok | apply jR); (simp (disch := (first | omega | (simp only [vC]; omega))) only [push_cast, simprocAttr, takeM, dropM, zK, zA, zB, zN, zQ, zR, zO, zP, zT, zS, zU, leT, zH, hS2, hZ2, hkI, hSN2, natNe, zI, zG, zJ, isEmpty_map, zV, zW, zC, zM, zY, zX, zE, zD] <;> rfl); all_goals try ((with_reducible intro hI); try first | (cases hI; done) | (simp only [INTS, zL] at hI; try first | (exfalso; omega) | (have hT : True := hI; clear hT hI))))
    | (apply jT cx_ok; decide; rfl; rfl; rfl; decide; (iterate 3 (simp (disch := (first | omega | (simp only [vC]; omega))) only [push_cast, simprocAttr, takeM, dropM, zK, zA, zB, zN, zQ, zR, zO, zP, zT, zS, zU, leT, zH, hS2, hZ2, hkI, hSN2, natNe, zI, zG, zJ, isEmpty_map, zV, zW, zC, zM, zY, zX, zE, zD] <;> rfl)); (first | (focus (simp; done)) | (intro c hc; obtain ⟨x, _, rfl⟩ := List.mem_map.1 hc; rfl)); ((first | rfl | simp (disch := omega) only [push_cast])); ((try dsimp only); (try simp only [vC]); omega); ((try dsimp only); (try simp only [vC]); omega))
    | ((first | apply jj | apply jk); (iterate 2 (try (simp (disch := (first | omega | (simp only [vC]; omega))) only [push_cast, simprocAttr, takeM, dropM, zK, zA, zB, zN, zQ, zR, zO, zP, zT, zS, zU, leT, zH, hS2, hZ2, hkI, hSN2, natNe, zI, zG, zJ, isEmpty_map, zV, zW, zC, zM, zY, zX, zE, zD] <;> rfl))))

  all_goals (show _ = _; rfl)
end Go.Proofs.Ks

namespace Go.Proofs.Ks
open Go Go.Pg Go.Proofs
def betweenP (r : Rec) (a b : Int) : Span × Int :=
  if checkE r = 0 then (if (0 ≤ a ∧ a < (r.strikes.length : Int)) ∧ (0 ≤ b ∧ b < (r.strikes.length : Int)) then (if consP r [] = true then (spanF (nodesR r []) (linksR r []) (3 + a.toNat) (3 + b.toNat), 0) else (⟨0, 0⟩, 9)) else (⟨0, 0⟩, 1)) else (⟨0, 0⟩, checkE r)
theorem strikeB_ok (r : Rec) (n : Int) (hl : r.strikes.length ≤ 1099511627776) (b : Bool) (h : b = true ↔ (0 ≤ n ∧ n < (r.strikes.length : Int))) : OKv cx 80 [.agg (eRec r), ai n] (ab b) := by
  have e : b = (decide (0 ≤ n) && decide (n < (r.strikes.length : Int))) := by
    cases b with
    | true => have := h.1 rfl; simp [this.1, this.2]
    | false =>
      cases hq : (decide (0 ≤ n) && decide (n < (r.strikes.length : Int))) with
      | false => rfl
      | true => simp only [Bool.and_eq_true, decide_eq_true_eq] at hq; exact absurd (h.2 hq) (by decide)
  rw [e]; exact strikeN_ok r n hl
theorem Between_ok (r : Rec) (a b : Int) : OKv cx 23 [.agg (eRec r), ai a, ai b] (.tup [.agg (eSpan (betweenP r a b).1), ai (betweenP r a b).2]) := by
  unfold betweenP
  by_cases hc : checkE r = 0
  · rw [if_pos hc]
    have hv := checkE_V hc
    have hns := hv.nstrikes
    by_cases ha : 0 ≤ a ∧ a < (r.strikes.length : Int)
    · have sa := strikeB_ok r a (by omega) true ⟨fun _ => ha, fun _ => rfl⟩
      by_cases hb : 0 ≤ b ∧ b < (r.strikes.length : Int)
      · have sb := strikeB_ok r b (by omega) true ⟨fun _ => hb, fun _ => rfl⟩
        rw [if_pos ⟨ha, hb⟩]
        rcases solved0 r with ⟨hc', hs⟩ | ⟨_, hq, hs⟩ | ⟨_, hq, hs⟩
        · exact absurd hc hc'
        · rw [if_neg (by rw [hq]; decide)]
          refine OKat.of_bodyM cx_ok (rs := [.cell 6 23, .tmp 7]) Try.func23 rfl (by decide +kernel) rfl (by simp [Try.ntmps23]) ?_
          simp only [Try.ntmps23]
          repeat' first
            | apply jA | apply jB | apply jC | apply jD | apply jE | apply jF | apply jG | apply jH | apply jI
            | ((first | (apply jK cx_ok; decide) | apply jM cx_ok | (apply jN; rfl; decide) | apply jR); (simp (disch := omega) only [push_cast, simprocAttr, hc] <;> rfl); all_goals try ((with_reducible intro hI); try first | (cases hI; done) | (simp only [INTS, zL] at hI; try first | (exfalso; omega) | (have hT : True := hI; clear hT hI))))
            | ((apply jV cx_ok; decide); (iterate 2 (simp (disch := omega) only [push_cast, simprocAttr, hc] <;> rfl)); (with_reducible first | exact Check_ok r | exact sa | exact sb | exact hs); try first | rfl | (simp (disch := omega) only [push_cast, simprocAttr, hc] <;> rfl))
            | ((first | apply jl | apply jm); (iterate 2 (try (simp (disch := omega) only [push_cast, simprocAttr, hc] <;> rfl))))

          all_goals (show _ = _; rfl)
        · rw [if_pos hq]
          obtain ⟨i, rfl⟩ := Int.eq_ofNat_of_zero_le ha.1
          obtain ⟨j, rfl⟩ := Int.eq_ofNat_of_zero_le hb.1
          have hl := nodesR_len r []
          have ti : OKv cx 83 [gSys (nodesR r []) (linksR r []), ai 3, ai i] (ai (3 + (i : Int))) := by rw [← atP_strike (r := r) (more := []) (i := i) (by omega)]; exact at_ok (nodesR r []) (linksR r []) 3 i
          have tj : OKv cx 83 [gSys (nodesR r []) (linksR r []), ai 3, ai j] (ai (3 + (j : Int))) := by rw [← atP_strike (r := r) (more := []) (i := j) (by omega)]; exact at_ok (nodesR r []) (linksR r []) 3 j
          have hsp : OKv cx 82 [gSys (nodesR r []) (linksR r []), ai (3 + (i : Int)), ai (3 + (j : Int))] (.agg (eSpan (spanF (nodesR r []) (linksR r []) (3 + (i : Int).toNat) (3 + (j : Int).toNat)))) := by
            have := spanI_ok (more := []) hv (by decide) nomore (f := 3 + (i : Int)) (t := 3 + (j : Int)) (by omega) (by omega)
            rwa [show (3 + (i : Int)).toNat = 3 + (i : Int).toNat by omega, show (3 + (j : Int)).toNat = 3 + (j : Int).toNat by omega] at this
          obtain ⟨S, hS0⟩ : ∃ z, spanF (nodesR r []) (linksR r []) (3 + (i : Int).toNat) (3 + (j : Int).toNat) = z := ⟨_, rfl⟩
          rw [hS0] at hsp ⊢
          refine OKat.of_bodyM cx_ok (rs := [.cell 6 23, .tmp 7]) Try.func23 rfl (by decide +kernel) rfl (by simp [Try.ntmps23]) ?_
          simp only [Try.ntmps23]
          repeat' first
            | apply jA | apply jB | apply jC | apply jD | apply jE | apply jF | apply jG | apply jH | apply jI
            | ((first | (apply jK cx_ok; decide) | apply jM cx_ok | (apply jN; rfl; decide) | apply jR); (simp (disch := omega) only [push_cast, simprocAttr, hc] <;> rfl); all_goals try ((with_reducible intro hI); try first | (cases hI; done) | (simp only [INTS, zL] at hI; try first | (exfalso; omega) | (have hT : True := hI; clear hT hI))))
            | ((apply jV cx_ok; decide); (iterate 2 (simp (disch := omega) only [push_cast, simprocAttr, hc] <;> rfl)); (with_reducible first | exact Check_ok r | exact sa | exact sb | exact hs | exact ti | exact tj | exact hsp); try first | rfl | (simp (disch := omega) only [push_cast, simprocAttr, hc] <;> rfl))
            | ((first | apply jl | apply jm); (iterate 2 (try (simp (disch := omega) only [push_cast, simprocAttr, hc] <;> rfl))))

          all_goals (show _ = _; rfl)
      · have sb := strikeB_ok r b (by omega) false ⟨fun h => (by cases h), fun h => absurd h hb⟩
        rw [if_neg (fun h => hb h.2)]
        refine OKat.of_bodyM cx_ok (rs := [.cell 6 23, .tmp 7]) Try.func23 rfl (by decide +kernel) rfl (by simp [Try.ntmps23]) ?_
        simp only [Try.ntmps23]
        repeat' first
          | apply jA | apply jB | apply jC | apply jD | apply jE | apply jF | apply jG | apply jH | apply jI
          | ((first | (apply jK cx_ok; decide) | apply jM cx_ok | (apply jN; rfl; decide) | apply jR); (simp (disch := omega) only [push_cast, simprocAttr, hc] <;> rfl); all_goals try ((with_reducible intro hI); try first | (cases hI; done) | (simp only [INTS, zL] at hI; try first | (exfalso; omega) | (have hT : True := hI; clear hT hI))))
          | ((apply jV cx_ok; decide); (iterate 2 (simp (disch := omega) only [push_cast, simprocAttr, hc] <;> rfl)); (with_reducible first | exact Check_ok r | exact sa | exact sb); try first | rfl | (simp (disch := omega) only [push_cast, simprocAttr, hc] <;> rfl))
          | ((first | apply jl | apply jm); (iterate 2 (try (simp (disch := omega) only [push_cast, simprocAttr, hc] <;> rfl))))

        all_goals (show _ = _; rfl)
    · have sa := strikeB_ok r a (by omega) false ⟨fun h => (by cases h), fun h => absurd h ha⟩
      rw [if_neg (fun h => ha h.1)]
      refine OKat.of_bodyM cx_ok (rs := [.cell 6 23, .tmp 7]) Try.func23 rfl (by decide +kernel) rfl (by simp [Try.ntmps23]) ?_
      simp only [Try.ntmps23]
      repeat' first
        | apply jA | apply jB | apply jC | apply jD | apply jE | apply jF | apply jG | apply jH | apply jI
        | ((first | (apply jK cx_ok; decide) | apply jM cx_ok | (apply jN; rfl; decide) | apply jR); (simp (disch := omega) only [push_cast, simprocAttr, hc] <;> rfl); all_goals try ((with_reducible intro hI); try first | (cases hI; done) | (simp only [INTS, zL] at hI; try first | (exfalso; omega) | (have hT : True := hI; clear hT hI))))
        | ((apply jV cx_ok; decide); (iterate 2 (simp (disch := omega) only [push_cast, simprocAttr, hc] <;> rfl)); (with_reducible first | exact Check_ok r | exact sa); try first | rfl | (simp (disch := omega) only [push_cast, simprocAttr, hc] <;> rfl))
        | ((first | apply jl | apply jm); (iterate 2 (try (simp (disch := omega) only [push_cast, simprocAttr, hc] <;> rfl))))

      all_goals (show _ = _; rfl)
  · rw [if_neg hc]
    have hcF : (checkE r = 0) = False := eq_false hc
    refine OKat.of_bodyM cx_ok (rs := [.cell 6 23, .tmp 7]) Try.func23 rfl (by decide +kernel) rfl (by simp [Try.ntmps23]) ?_
    simp only [Try.ntmps23]
    repeat' first
      | apply jA | apply jB | apply jC | apply jD | apply jE | apply jF | apply jG | apply jH | apply jI
      | ((first | (apply jK cx_ok; decide) | apply jM cx_ok | (apply jN; rfl; decide) | apply jR); (simp (disch := omega) only [push_cast, simprocAttr, hcF] <;> rfl); all_goals try ((with_reducible intro hI); try first | (cases hI; done) | (simp only [INTS, zL] at hI; try first | (exfalso; omega) | (have hT : True := hI; clear hT hI))))
      | ((apply jV cx_ok; decide); (iterate 2 (simp (disch := omega) only [push_cast, simprocAttr, hcF] <;> rfl)); (with_reducible first | exact Check_ok r); try first | rfl | (simp (disch := omega) only [push_cast, simprocAttr, hcF] <;> rfl))
      | ((first | apply jl | apply jm); (iterate 2 (try (simp (disch := omega) only [push_cast, simprocAttr, hcF] <;> rfl))))

    all_goals (show _ = _; rfl)
def whenP (r : Rec) (p : Int) : Span × Int :=
  if checkE r = 0 then (if r.s.zero.lo ≤ p ∧ p ≤ r.s.fin.hi + 1 then (if consP r [p] = true then (spanF (nodesR r [p]) (linksR r [p]) 0 (atP 4 p (nodesR r [p])).toNat, 0) else (⟨0, 0⟩, 9)) else (⟨0, 0⟩, 3)) else (⟨0, 0⟩, checkE r)
theorem When_ok (r : Rec) (p : Int) : OKv cx 24 [.agg (eRec r), ai p] (.tup [.agg (eSpan (whenP r p).1), ai (whenP r p).2]) := by
  unfold whenP
  by_cases hc : checkE r = 0
  · rw [if_pos hc]
    have hv := checkE_V hc
    obtain ⟨z1, z2, z3⟩ := hv.z
    obtain ⟨f1, f2, f3⟩ := hv.f
    by_cases hp : r.s.zero.lo ≤ p ∧ p ≤ r.s.fin.hi + 1
    · rw [if_pos hp]
      obtain ⟨p1, p2⟩ := hp
      have hmb : ∀ a ∈ [p], 0 ≤ a ∧ a ≤ 43200 := fun a h => by rw [List.mem_singleton.1 h]; omega
      cases hq : consP r [p] with
      | false =>
        have hs : OKv cx 81 [.agg (eRec r), .lst [[ai p]]] (.tup [.v (.pointer none), ai 9]) := solved_clash r [p] hc (by simp) hmb hq
        rw [if_neg (by decide)]
        refine OKat.of_bodyM cx_ok (rs := [.cell 4 23, .tmp 5]) Try.func24 rfl (by decide +kernel) rfl (by simp [Try.ntmps24]) ?_
        simp only [Try.ntmps24]
        repeat' first
          | apply jA | apply jB | apply jC | apply jD | apply jE | apply jF | apply jG | apply jH | apply jI
          | ((first | (apply jK cx_ok; decide) | apply jM cx_ok | (apply jN; rfl; decide) | apply jR); (simp (disch := omega) only [push_cast, simprocAttr, hc, p1, p2] <;> rfl); all_goals try ((with_reducible intro hI); try first | (cases hI; done) | (simp only [INTS, zL] at hI; try first | (exfalso; omega) | (have hT : True := hI; clear hT hI))))
          | ((apply jV cx_ok; decide); (iterate 2 (simp (disch := omega) only [push_cast, simprocAttr, hc, p1, p2] <;> rfl)); (with_reducible first | exact Check_ok r | exact hs); try first | rfl | (simp (disch := omega) only [push_cast, simprocAttr, hc, p1, p2] <;> rfl))
          | ((first | apply jl | apply jm); (iterate 2 (try (simp (disch := omega) only [push_cast, simprocAttr, hc, p1, p2] <;> rfl))))

        all_goals (show _ = _; rfl)
      | true =>
        have hs : OKv cx 81 [.agg (eRec r), .lst [[ai p]]] (.tup [gSys (nodesR r [p]) (linksR r [p]), ai 0]) := solved_good r [p] hc (by simp) hmb hq
        rw [if_pos rfl]
        have hm : p ∈ marksR r [p] := marksR_mem.2 (.inr (.inr (by simp)))
        obtain ⟨m1, m2⟩ := at_mark hm
        rw [← atP_mark hm] at m1 m2
        have ha := at_ok (nodesR r [p]) (linksR r [p]) 4 p
        have hsp : OKv cx 82 [gSys (nodesR r [p]) (linksR r [p]), ai 0, ai (atP 4 p (nodesR r [p]))] (.agg (eSpan (spanF (nodesR r [p]) (linksR r [p]) 0 (atP 4 p (nodesR r [p])).toNat))) := spanI_ok hv (by simp) hmb (f := 0) (by omega) ⟨m1, m2⟩
        obtain ⟨K, hK⟩ : ∃ z, atP 4 p (nodesR r [p]) = z := ⟨_, rfl⟩
        rw [hK] at ha hsp ⊢
        obtain ⟨S, hS0⟩ : ∃ z, spanF (nodesR r [p]) (linksR r [p]) 0 K.toNat = z := ⟨_, rfl⟩
        rw [hS0] at hsp ⊢
        refine OKat.of_bodyM cx_ok (rs := [.cell 4 23, .tmp 5]) Try.func24 rfl (by decide +kernel) rfl (by simp [Try.ntmps24]) ?_
        simp only [Try.ntmps24]
        repeat' first
          | apply jA | apply jB | apply jC | apply jD | apply jE | apply jF | apply jG | apply jH | apply jI
          | ((first | (apply jK cx_ok; decide) | apply jM cx_ok | (apply jN; rfl; decide) | apply jR); (simp (disch := omega) only [push_cast, simprocAttr, hc, p1, p2] <;> rfl); all_goals try ((with_reducible intro hI); try first | (cases hI; done) | (simp only [INTS, zL] at hI; try first | (exfalso; omega) | (have hT : True := hI; clear hT hI))))
          | ((apply jV cx_ok; decide); (iterate 2 (simp (disch := omega) only [push_cast, simprocAttr, hc, p1, p2] <;> rfl)); (with_reducible first | exact Check_ok r | exact hs | exact ha | exact hsp); try first | rfl | (simp (disch := omega) only [push_cast, simprocAttr, hc, p1, p2] <;> rfl))
          | ((first | apply jl | apply jm); (iterate 2 (try (simp (disch := omega) only [push_cast, simprocAttr, hc, p1, p2] <;> rfl))))

        all_goals (show _ = _; rfl)
    · rw [if_neg hp]
      by_cases p1 : r.s.zero.lo ≤ p
      · have p2 : r.s.fin.hi + 1 < p := by omega
        refine OKat.of_bodyM cx_ok (rs := [.cell 4 23, .tmp 5]) Try.func24 rfl (by decide +kernel) rfl (by simp [Try.ntmps24]) ?_
        simp only [Try.ntmps24]
        repeat' first
          | apply jA | apply jB | apply jC | apply jD | apply jE | apply jF | apply jG | apply jH | apply jI
          | ((first | (apply jK cx_ok; decide) | apply jM cx_ok | (apply jN; rfl; decide) | apply jR); (simp (disch := omega) only [push_cast, simprocAttr, hc, p1, p2] <;> rfl); all_goals try ((with_reducible intro hI); try first | (cases hI; done) | (simp only [INTS, zL] at hI; try first | (exfalso; omega) | (have hT : True := hI; clear hT hI))))
          | ((apply jV cx_ok; decide); (iterate 2 (simp (disch := omega) only [push_cast, simprocAttr, hc, p1, p2] <;> rfl)); (with_reducible first | exact Check_ok r); try first | rfl | (simp (disch := omega) only [push_cast, simprocAttr, hc, p1, p2] <;> rfl))
          | ((first | apply jl | apply jm); (iterate 2 (try (simp (disch := omega) only [push_cast, simprocAttr, hc, p1, p2] <;> rfl))))

        all_goals (show _ = _; rfl)
      · have p2 : p < r.s.zero.lo := by omega
        refine OKat.of_bodyM cx_ok (rs := [.cell 4 23, .tmp 5]) Try.func24 rfl (by decide +kernel) rfl (by simp [Try.ntmps24]) ?_
        simp only [Try.ntmps24]
        repeat' first
          | apply jA | apply jB | apply jC | apply jD | apply jE | apply jF | apply jG | apply jH | apply jI
          | ((first | (apply jK cx_ok; decide) | apply jM cx_ok | (apply jN; rfl; decide) | apply jR); (simp (disch := omega) only [push_cast, simprocAttr, hc, p2] <;> rfl); all_goals try ((with_reducible intro hI); try first | (cases hI; done) | (simp only [INTS, zL] at hI; try first | (exfalso; omega) | (have hT : True := hI; clear hT hI))))
          | ((apply jV cx_ok; decide); (iterate 2 (simp (disch := omega) only [push_cast, simprocAttr, hc, p2] <;> rfl)); (with_reducible first | exact Check_ok r); try first | rfl | (simp (disch := omega) only [push_cast, simprocAttr, hc, p2] <;> rfl))
          | ((first | apply jl | apply jm); (iterate 2 (try (simp (disch := omega) only [push_cast, simprocAttr, hc, p2] <;> rfl))))

        all_goals (show _ = _; rfl)
  · rw [if_neg hc]
    have hcF : (checkE r = 0) = False := eq_false hc
    refine OKat.of_bodyM cx_ok (rs := [.cell 4 23, .tmp 5]) Try.func24 rfl (by decide +kernel) rfl (by simp [Try.ntmps24]) ?_
    simp only [Try.ntmps24]
    repeat' first
      | apply jA | apply jB | apply jC | apply jD | apply jE | apply jF | apply jG | apply jH | apply jI
      | ((first | (apply jK cx_ok; decide) | apply jM cx_ok | (apply jN; rfl; decide) | apply jR); (simp (disch := omega) only [push_cast, simprocAttr, hcF] <;> rfl); all_goals try ((with_reducible intro hI); try first | (cases hI; done) | (simp only [INTS, zL] at hI; try first | (exfalso; omega) | (have hT : True := hI; clear hT hI))))
      | ((apply jV cx_ok; decide); (iterate 2 (simp (disch := omega) only [push_cast, simprocAttr, hcF] <;> rfl)); (with_reducible first | exact Check_ok r); try first | rfl | (simp (disch := omega) only [push_cast, simprocAttr, hcF] <;> rfl))
      | ((first | apply jl | apply jm); (iterate 2 (try (simp (disch := omega) only [push_cast, simprocAttr, hcF] <;> rfl))))

    all_goals (show _ = _; rfl)
end Go.Proofs.Ks

namespace Go.Proofs.Ks
open Go Go.Pg Go.Proofs
theorem Links_bad (r : Rec) (hc : checkE r ≠ 0) : OKv cx 40 [.agg (eRec r)] (.tup [.lst [], ai (checkE r)]) := by
  have hcF : (checkE r = 0) = False := eq_false hc
  refine OKat.of_body (rs := [2, 3]) Try.func40 rfl (by decide +kernel) rfl (by simp [Try.ntmps40]) ?_
  simp only [Try.ntmps40]
  repeat' first
    | apply jA | apply jB | apply jC | apply jD | apply jE | apply jF | apply jG | apply jH | apply jI
    | ((first | (apply jK cx_ok; decide) | apply jR); (simp (disch := omega) only [push_cast, simprocAttr, hcF] <;> rfl); all_goals try ((with_reducible intro hI); try first | (cases hI; done) | (simp only [INTS, zL] at hI; try first | (exfalso; omega) | (have hT : True := hI; clear hT hI))))
    | ((apply jV cx_ok; decide); (iterate 2 (simp (disch := omega) only [push_cast, simprocAttr, hcF] <;> rfl)); (with_reducible first | exact Check_ok r); try first | rfl | (simp (disch := omega) only [push_cast, simprocAttr, hcF] <;> rfl))
    | ((first | apply jh | apply ji); (iterate 2 (try (simp (disch := omega) only [push_cast, simprocAttr, hcF] <;> rfl))))

  all_goals (show _ = _; rfl)
theorem Links_good (r : Rec) (hc : checkE r = 0) : OKv cx 40 [.agg (eRec r)] (.tup [lLink (linksR r []), ai 0]) := by
  have hv := checkE_V hc
  have hb : OKv cx 87 [.agg (eRec r), .lst []] (gSys (nodesR r []) (linksR r [])) := build_ok r [] hv (by decide) nomore
  refine OKat.of_body (rs := [2, 3]) Try.func40 rfl (by decide +kernel) rfl (by simp [Try.ntmps40]) ?_
  simp only [Try.ntmps40]
  repeat' first
    | apply jA | apply jB | apply jC | apply jD | apply jE | apply jF | apply jG | apply jH | apply jI
    | ((first | (apply jK cx_ok; decide) | apply jR); (simp (disch := omega) only [push_cast, simprocAttr, hc] <;> rfl); all_goals try ((with_reducible intro hI); try first | (cases hI; done) | (simp only [INTS, zL] at hI; try first | (exfalso; omega) | (have hT : True := hI; clear hT hI))))
    | ((apply jV cx_ok; decide); (iterate 2 (simp (disch := omega) only [push_cast, simprocAttr, hc] <;> rfl)); (with_reducible first | exact Check_ok r | exact hb); try first | rfl | (simp (disch := omega) only [push_cast, simprocAttr, hc] <;> rfl))
    | ((first | apply jh | apply ji); (iterate 2 (try (simp (disch := omega) only [push_cast, simprocAttr, hc] <;> rfl))))

  all_goals (show _ = _; rfl)
end Go.Proofs.Ks
