/-
  Contracts of functions, proved by going through their code. No conditions.
-/
import Derived.Test.YtbeiiipphicdlaaGreatDoorTbe
import Derived.Test.YtbeiiipphicdlaaGreatDoorTbf
set_option linter.unusedVariables false
set_option linter.unusedSimpArgs false
set_option maxHeartbeats 8000000
set_option maxRecDepth 10000
namespace Go.Proofs.Hz
open Go Go.Pg Go.Proofs
theorem map_repG (n : Nat) : (List.replicate n Gate.zero).map eGate = List.replicate n [ai 0, ab false, ai 0, ai 0, ai 0, ai 0] := by rw [List.map_replicate]; rfl
theorem nextH_lt {h : House} (hv : h.V) {g : Gate} (hg : g.OK h) {x : Int} (h0 : 0 ≤ x) (h1 : x ≤ 1073741824) : nextH h g x < 1073741824 := by
  unfold nextH
  split
  · rename_i hne
    unfold enter at hne ⊢
    split
    · rename_i hc; rw [if_pos hc] at hne; exact absurd rfl hne
    · omega
  · decide
theorem spreadA_ok {H : Nat → Option AO} {nx ri c0 : Nat} {args : List AV} (h : House) (row : List Int) (ha : args = [.agg (eHouse h), .ref ri 0 h.rooms.length, .clo 64 [.ptr c0 0 0 1], .clo 65 []]) (hfit : h.Fit) (hv : h.V) (hrl : row.length = h.rooms.length) (hrx : ∀ x ∈ row, x ≤ 1073741823) (hri : ri < nx) (hc0 : c0 < nx ∧ c0 ≠ ri) (hrc : Pg.rowAt H c0 = some { k := 3, es := [eHouse h], ty := 26 })
    (hr : Pg.rowAt H ri = some { k := 1, es := row.map eInt, ty := 3 }) :
    OKm cx 63 args H nx (fun r H' nx' => r = .ref (nx + 1) 0 h.rooms.length ∧ Pg.rowAt H' (nx + 1) = some { k := 6, es := (spread (nextH h) (gates h) row).2.map eGate, ty := 94 } ∧ Pg.rowAt H' ri = some { k := 1, es := (spread (nextH h) (gates h) row).1.map eInt, ty := 3 } ∧ nx + 2 ≤ nx' ∧ ∀ j, j < nx → j ≠ ri → H' j = H j) := by
  subst ha
  have hrn := hv.rooms
  have hwn := hv.nw
  have hgl := gates_len h
  have hd0 : ri ≠ nx := by omega
  have hd1 : ri ≠ nx + 1 := by omega
  have hd2 : nx + 1 ≠ ri := by omega
  have hms : (h.rooms.length : Int) * 48 ≤ 281474976710656 := by omega
  have hms2 : (h.rooms.length : Int) ≤ 281474976710656 := by omega
  have hc1 : c0 ≠ ri := hc0.2
  have hc2 : ri ≠ c0 := fun e => hc0.2 e.symm
  have hc3 : c0 ≠ nx := by omega
  have hc4 : c0 ≠ nx + 1 := by omega
  refine OKm.of_body cx_ok (rs := [.tmp 8]) Tryz.func63 rfl (by decide +kernel) rfl (by simp [Tryz.ntmps63]) ?_
  simp only [Tryz.ntmps63]
  repeat' first
    | apply AW.seq | apply AW.region | apply AW.ret | apply AW.block | apply AW.skip | apply AW.exit | apply AW.scope | apply AW.label | apply AWL.nil | apply D.nil
    | refine W.draw cx_mixed (by decide +kernel) ?_
    | ((first | (apply W.step cx_ok; decide) | (apply D.step cx_ok; decide; decide) | apply W.store cx_ok | (apply W.gS; rfl; decide) | (apply D.gS; rfl; decide; decide) | apply AW.cond); (simp (disch := omega) only [push_cast, simprocAttr, hd0, hd1, hd2, hr, hms, hms2, hc1, hc2, hc3, hc4, hrc] <;> rfl); all_goals try ((with_reducible intro hI); try first | (cases hI; done) | (simp only [INTS] at hI; try first | (exfalso; omega) | (have hT : True := hI; clear hT hI))))
    | ((first | (apply W.callv cx_ok; decide) | (apply D.callv cx_ok; decide; decide)); (iterate 2 (simp (disch := omega) only [push_cast, simprocAttr, hd0, hd1, hd2, hr, hms, hms2, hc1, hc2, hc3, hc4, hrc] <;> rfl)); (with_reducible first | exact gates_ok h hfit.nw); try first | rfl | (simp (disch := omega) only [push_cast, simprocAttr, hd0, hd1, hd2, hr, hms, hms2, hc1, hc2, hc3, hc4, hrc] <;> rfl))
    | ((first | apply W.retC | apply W.endC' | apply W.retM | apply W.endM' | apply W.ret1 | apply W.end1 | apply W.ret2 | apply W.end2 | apply W.ret3 | apply W.end3 | apply W.ret0 | apply W.end0); (iterate 2 (try (simp (disch := omega) only [push_cast, simprocAttr, hd0, hd1, hd2, hr, hms, hms2, hc1, hc2, hc3, hc4, hrc] <;> rfl))))
  refine AW.loop (fun n s => ∃ (row1 : List Int) (by1 : List Gate) (k : Nat), n = k ∧ (row1.length = h.rooms.length) ∧ (by1.length = h.rooms.length) ∧ (spreadM row1 < k) ∧ (spreadF (nextH h) (gates h) k row1 by1 = spread (nextH h) (gates h) row) ∧ (∀ x ∈ row1, x ≤ 1073741823) ∧ (∀ j, j < nx → j ≠ ri → s.H j = H j) ∧ nx + 2 ≤ s.nx ∧ s.tm 1 = .ref ri 0 h.rooms.length ∧ s.tm 2 = .clo 64 [.ptr c0 0 0 1] ∧ s.tm 3 = .clo 65 [] ∧ s.tm 9 = .ref (nx + 1) 0 h.rooms.length ∧ s.tm 10 = .lst ((gates h).map eGate) ∧ Pg.rowAt s.H (ri) = some ({ k := 1, es := row1.map eInt, ty := 3 }) ∧ Pg.rowAt s.H (nx + 1) = some ({ k := 6, es := by1.map eGate, ty := 94 }) ∧ Pg.rowAt s.H (c0) = some ({ k := 3, es := [eHouse h], ty := 26 })) ((spreadM row + 1)) ⟨row, List.replicate h.rooms.length .zero, spreadM row + 1, rfl, hrl, (by simp), (Nat.lt_succ_self _), (by rw [← hrl]; rfl), hrx, (by intro j hjlt hjne; simp (disch := omega) only [push_cast, if_neg]), ?_, ?_, ?_, ?_, ?_, ?_, ?_, ?_, ?_⟩ ?_
  iterate 9 (first | (simp (disch := omega) only [push_cast, simprocAttr, hd0, hd1, hd2, hr, hms, hms2, hc1, hc2, hc3, hc4, hrc, map_repG] <;> first | rfl | omega) | omega)
  rintro n s ⟨row1, by1, k, hn, hp0, hp1, hp2, hp3, hp4, hp5, hnl, hS⟩
  have hZ : (ri : Nat) ≠ s.nx ∧ s.nx ≠ (ri : Nat) ∧ (nx + 1 : Nat) ≠ s.nx ∧ s.nx ≠ (nx + 1 : Nat) ∧ (c0 : Nat) ≠ s.nx ∧ s.nx ≠ (c0 : Nat) := by omega
  repeat' first
    | apply AW.seq | apply AW.region | apply AW.ret | apply AW.block | apply AW.skip | apply AW.exit | apply AW.scope | apply AW.label | apply AWL.nil | apply D.nil
    | refine W.draw cx_mixed (by decide +kernel) ?_
    | ((first | (apply W.step cx_ok; decide) | (apply D.step cx_ok; decide; decide) | apply W.store cx_ok | (apply W.gS; rfl; decide) | (apply D.gS; rfl; decide; decide) | apply AW.cond); (simp (disch := omega) only [push_cast, simprocAttr, hS, hZ, hd0, hd1, hd2, hr, hms, hms2, hc1, hc2, hc3, hc4, hrc] <;> rfl); all_goals try ((with_reducible intro hI); try first | (cases hI; done) | (simp only [INTS] at hI; try first | (exfalso; omega) | (have hT : True := hI; clear hT hI))))
    | ((first | apply W.retC | apply W.endC' | apply W.retM | apply W.endM' | apply W.ret1 | apply W.end1 | apply W.ret2 | apply W.end2 | apply W.ret3 | apply W.end3 | apply W.ret0 | apply W.end0); (iterate 2 (try (simp (disch := omega) only [push_cast, simprocAttr, hS, hZ, hd0, hd1, hd2, hr, hms, hms2, hc1, hc2, hc3, hc4, hrc] <;> rfl))))
  refine AW.loop (fun n s => ∃ (j : Nat) (rest : List Gate), n = rest.length ∧ ((gates h).drop j = rest) ∧ ((gates h).find? (impr (nextH h) row1) = rest.find? (impr (nextH h) row1)) ∧ (∀ j, j < nx → j ≠ ri → s.H j = H j) ∧ nx + 2 ≤ s.nx ∧ s.tm 1 = .ref ri 0 h.rooms.length ∧ s.tm 2 = .clo 64 [.ptr c0 0 0 1] ∧ s.tm 3 = .clo 65 [] ∧ s.tm 9 = .ref (nx + 1) 0 h.rooms.length ∧ s.tm 10 = .lst ((gates h).map eGate) ∧ s.tm 19 = .lst ((gates h).map eGate) ∧ s.tm 20 = ai (gates h).length ∧ s.tm 21 = ai j ∧ Pg.rowAt s.H (ri) = some ({ k := 1, es := row1.map eInt, ty := 3 }) ∧ Pg.rowAt s.H (nx + 1) = some ({ k := 6, es := by1.map eGate, ty := 94 }) ∧ Pg.rowAt s.H (c0) = some ({ k := 3, es := [eHouse h], ty := 26 })) ((gates h).length) ⟨0, _, rfl, rfl, rfl, (by intro j hjlt hjne; simp (disch := omega) only [push_cast, if_neg, hp5]), ?_, ?_, ?_, ?_, ?_, ?_, ?_, ?_, ?_, ?_, ?_, ?_⟩ ?_
  iterate 12 (first | (simp (disch := omega) only [push_cast, simprocAttr, hS, hZ, hd0, hd1, hd2, hr, hms, hms2, hc1, hc2, hc3, hc4, hrc] <;> first | rfl | omega) | omega)
  rintro n2 s2 ⟨j2, rest2, hn2, hp02, hp12, hp22, hnl2, hS2⟩
  have hZ2 : (ri : Nat) ≠ s2.nx ∧ s2.nx ≠ (ri : Nat) ∧ (nx + 1 : Nat) ≠ s2.nx ∧ s2.nx ≠ (nx + 1 : Nat) ∧ (c0 : Nat) ≠ s2.nx ∧ s2.nx ≠ (c0 : Nat) := by omega
  obtain ⟨k', rfl⟩ : ∃ k', k = k' + 1 := ⟨k - 1, by omega⟩
  rcases rest2 with _ | ⟨x2, rest2⟩
  · have hk2 := drop_nil hp02
    have hfin : (row1, by1) = spread (nextH h) (gates h) row := by
      rw [← hp3, spreadF, hp12]; rfl
    repeat' first
      | apply AW.seq | apply AW.region | apply AW.ret | apply AW.block | apply AW.skip | apply AW.exit | apply AW.scope | apply AW.label | apply AWL.nil | apply D.nil
      | refine W.draw cx_mixed (by decide +kernel) ?_
      | ((first | (apply W.step cx_ok; decide) | (apply D.step cx_ok; decide; decide) | apply W.store cx_ok | (apply W.gS; rfl; decide) | (apply D.gS; rfl; decide; decide) | apply AW.cond); (simp (disch := omega) only [push_cast, simprocAttr, hS2, hZ2, hd0, hd1, hd2, hr, hms, hms2, hc1, hc2, hc3, hc4, hrc, hk2] <;> rfl); all_goals try ((with_reducible intro hI); try first | (cases hI; done) | (simp only [INTS] at hI; try first | (exfalso; omega) | (have hT : True := hI; clear hT hI))))
      | ((first | apply W.retC | apply W.endC' | apply W.retM | apply W.endM' | apply W.ret1 | apply W.end1 | apply W.ret2 | apply W.end2 | apply W.ret3 | apply W.end3 | apply W.ret0 | apply W.end0); (iterate 2 (try (simp (disch := omega) only [push_cast, simprocAttr, hS2, hZ2, hd0, hd1, hd2, hr, hms, hms2, hc1, hc2, hc3, hc4, hrc, hk2] <;> rfl))))
    all_goals
      (simp only [blockQ, loopQ, scopeQ]
       apply W.retX (vs := [.ref (nx + 1) 0 h.rooms.length])
       · simp (disch := omega) only [push_cast, simprocAttr, hS2, hZ2, hd0, hd1, hd2, hr, hms, hms2, hc1, hc2, hc3, hc4, hrc]
       refine ⟨rfl, ?_, ?_, ?_, ?_⟩
       · rw [← hfin]; (simp (disch := omega) only [push_cast, simprocAttr, hS2, hZ2, hd0, hd1, hd2, hr, hms, hms2, hc1, hc2, hc3, hc4, hrc])
       · rw [← hfin]; (simp (disch := omega) only [push_cast, simprocAttr, hS2, hZ2, hd0, hd1, hd2, hr, hms, hms2, hc1, hc2, hc3, hc4, hrc])
       · (try simp (disch := omega) only [push_cast, simprocAttr, hS2, hZ2, hd0, hd1, hd2, hr, hms, hms2, hc1, hc2, hc3, hc4, hrc]); omega
       · exact (by intro j hjlt hjne; simp (disch := omega) only [push_cast, if_neg, hp22]))
  · obtain ⟨hk2, hg2, hd'2, hl'2, hm2, hx2⟩ := drop_cons hp02 eGate []
    have hgo := gate_ok hv hm2
    have g1 := hgo.from'.1
    have g2 := hgo.from'.2
    have g3 := hgo.to.1
    have g4 := hgo.to.2
    have g5 : x2.from'.toNat < row1.length := by omega
    have g6 : x2.to.toNat < row1.length := by omega
    have g7 : x2.to.toNat < by1.length := by omega
    have g8 : x2.to.toNat < h.rooms.length := by omega
    have hb1 : row1.getD x2.from'.toNat 0 ≤ 1073741823 := hp4 _ (List.mem_of_getElem? (getD_set' row1 x2.from'.toNat 0 g5))
    have hnb := fun hx0 : 0 ≤ row1.getD x2.from'.toNat 0 => nextH_lt hv hgo hx0 (by omega)
    repeat' first
      | apply AW.seq | apply AW.region | apply AW.ret | apply AW.block | apply AW.skip | apply AW.exit | apply AW.scope | apply AW.label | apply AWL.nil | apply D.nil
      | refine AW.draw (id := 9) cx_mixed [9, 10, 11] [3, 4, 5, 7] [ri, nx + 1] 0 (by decide +kernel) ?_
      | refine W.draw cx_mixed (by decide +kernel) ?_
      | ((first | (apply W.step cx_ok; decide) | (apply D.step cx_ok; decide; decide) | apply W.store cx_ok | (apply W.gS; rfl; decide) | (apply D.gS; rfl; decide; decide) | apply AW.cond); (simp (disch := omega) only [push_cast, simprocAttr, hS2, hZ2, hd0, hd1, hd2, hr, hms, hms2, hc1, hc2, hc3, hc4, hrc, hk2, hg2, g1, g2, g3, g4, g5, g6, g7, g8] <;> rfl); all_goals try ((with_reducible intro hI); try first | (cases hI; done) | (simp only [INTS] at hI; try first | (exfalso; omega) | (have hT : True := hI; clear hT hI))))
      | ((first | (apply D.store cx_ok; decide) | (apply D.stept cx_ok; decide; decide) | (apply D.stepm cx_ok; decide; decide)); (simp (disch := omega) only [push_cast, simprocAttr, hS2, hZ2, hd0, hd1, hd2, hr, hms, hms2, hc1, hc2, hc3, hc4, hrc, hk2, hg2, g1, g2, g3, g4, g5, g6, g7, g8] <;> rfl); try first | exact .inl rfl | exact .inr (by simp))
      | ((apply D.alloct cx_ok; decide; decide); (simp (disch := omega) only [push_cast, simprocAttr, hS2, hZ2, hd0, hd1, hd2, hr, hms, hms2, hc1, hc2, hc3, hc4, hrc, hk2, hg2, g1, g2, g3, g4, g5, g6, g7, g8] <;> rfl); first | exact .inl rfl | exact .inr (by simp))
      | ((first | (apply W.callv cx_ok; decide) | (apply D.callv cx_ok; decide; decide) | (apply D.callvt cx_ok; decide; decide)); (iterate 2 (simp (disch := omega) only [push_cast, simprocAttr, hS2, hZ2, hd0, hd1, hd2, hr, hms, hms2, hc1, hc2, hc3, hc4, hrc, hk2, hg2, g1, g2, g3, g4, g5, g6, g7, g8] <;> rfl)); (with_reducible first | exact arrNext_ok h x2 _ hv hgo (by omega) (by omega) | exact better_ok _ _); try first | rfl | (simp (disch := omega) only [push_cast, simprocAttr, hS2, hZ2, hd0, hd1, hd2, hr, hms, hms2, hc1, hc2, hc3, hc4, hrc, hk2, hg2, g1, g2, g3, g4, g5, g6, g7, g8] <;> rfl))
      | ((first | apply W.retC | apply W.endC' | apply W.retM | apply W.endM' | apply W.ret1 | apply W.end1 | apply W.ret2 | apply W.end2 | apply W.ret3 | apply W.end3 | apply W.ret0 | apply W.end0); (iterate 2 (try (simp (disch := omega) only [push_cast, simprocAttr, hS2, hZ2, hd0, hd1, hd2, hr, hms, hms2, hc1, hc2, hc3, hc4, hrc, hk2, hg2, g1, g2, g3, g4, g5, g6, g7, g8] <;> rfl))))
    all_goals first
      | (have hq : impr (nextH h) row1 x2 = false := by rw [Bool.eq_false_iff]; intro hi; rw [impr_iff] at hi; omega
         have hp12' : (gates h).find? (impr (nextH h) row1) = rest2.find? (impr (nextH h) row1) := by rw [hp12, List.find?_cons, hq]
         (refine ⟨rest2.length, ?_, j2 + 1, rest2, rfl, hd'2, hp12', (by intro j hjlt hjne; simp (disch := omega) only [push_cast, if_neg, hp22]), ?_, ?_, ?_, ?_, ?_, ?_, ?_, ?_, ?_, ?_, ?_, ?_⟩; ((simp only [List.length_cons] at *; omega)); all_goals first | (simp (disch := omega) only [push_cast, simprocAttr, hS2, hZ2, hd0, hd1, hd2, hr, hms, hms2, hc1, hc2, hc3, hc4, hrc, hk2, hg2, g1, g2, g3, g4, g5, g6, g7, g8] <;> first | rfl | omega) | omega))
      | (have hq : impr (nextH h) row1 x2 = true := by rw [impr_iff]; omega
         have hi := impr_iff.1 hq
         have hstep : spreadF (nextH h) (gates h) k' (row1.set x2.to.toNat ((nextH h) x2 (row1.getD x2.from'.toNat 0))) (by1.set x2.to.toNat x2) = spread (nextH h) (gates h) row := by
           rw [← hp3, spreadF, hp12, List.find?_cons, hq]
         have hlt := spreadM_lt (row := row1) (i := x2.to.toNat) (x := (nextH h) x2 (row1.getD x2.from'.toNat 0)) (by omega) hi.2.1 (by omega) hi.2.2
         (refine ⟨k', ?_, (row1.set x2.to.toNat ((nextH h) x2 (row1.getD x2.from'.toNat 0))), by1.set x2.to.toNat x2, k', rfl, (by rw [List.length_set]; exact hp0), (by rw [List.length_set]; exact hp1), (by omega), hstep, (fun y hy => by rcases List.mem_or_eq_of_mem_set hy with hy | rfl; exact hp4 y hy; omega), (by intro j hjlt hjne; simp (disch := omega) only [push_cast, if_neg, hp22]), ?_, ?_, ?_, ?_, ?_, ?_, ?_, ?_, ?_⟩; (omega); all_goals first | (simp (disch := omega) only [push_cast, simprocAttr, hS2, hZ2, hd0, hd1, hd2, hr, hms, hms2, hc1, hc2, hc3, hc4, hrc, hk2, hg2, g1, g2, g3, g4, g5, g6, g7, g8] <;> first | rfl | omega) | omega))
end Go.Proofs.Hz

namespace Go.Proofs.Hz
open Go Go.Pg Go.Proofs
def mapK (row : List Int) (k : Nat) : List Int := (row.take k).map room1 ++ row.drop k
theorem mapK_len (row : List Int) (k : Nat) : (mapK row k).length = row.length := by simp [mapK]; omega
theorem mapK_zero (row : List Int) : mapK row 0 = row := by simp [mapK]
theorem mapK_all (row : List Int) : mapK row row.length = row.map room1 := by simp [mapK]
theorem mapK_at {row : List Int} {k : Nat} (hk : k < row.length) : (mapK row k).getD k 0 = row.getD k 0 := by
  unfold mapK
  rw [List.getD_eq_getElem?_getD, List.getElem?_append_right (by simp; omega), List.getElem?_drop, List.getD_eq_getElem?_getD]
  congr 2; simp; omega
theorem mapK_set {row : List Int} {k : Nat} (hk : k < row.length) : (mapK row k).set k (room1 (row.getD k 0)) = mapK row (k + 1) := by
  apply List.ext_getElem?
  intro i
  rw [List.getElem?_set, mapK_len]
  unfold mapK
  simp only [List.getElem?_append, List.length_map, List.length_take, List.getElem?_map, List.getElem?_take, List.getElem?_drop]
  rcases Nat.lt_trichotomy i k with h | h | h
  · rw [if_neg (by omega), if_pos (by omega), if_pos (by omega), if_pos (by omega), if_pos (by omega)]
  · subst h
    rw [if_pos rfl, if_pos hk, if_pos (by omega), if_pos (by omega), getD_set' row i 0 hk]; rfl
  · rw [if_neg (by omega), if_neg (by omega), if_neg (by omega)]
    congr 1; omega
def arrH (h : House) (a : Nat) (t : Int) : List Int × List Gate :=
  (((spread (nextH h) (gates h) ((List.replicate h.rooms.length (-1)).set a t)).1.map room1), (spread (nextH h) (gates h) ((List.replicate h.rooms.length (-1)).set a t)).2)
theorem spreadF_len (f : Gate → Int → Int) (gs : List Gate) : ∀ (k : Nat) (row : List Int) (by' : List Gate), (spreadF f gs k row by').1.length = row.length ∧ (spreadF f gs k row by').2.length = by'.length
  | 0, row, by' => ⟨rfl, rfl⟩
  | k + 1, row, by' => by
    unfold spreadF
    split
    · exact ⟨rfl, rfl⟩
    · rename_i g hg
      have := spreadF_len f gs k (row.set g.to.toNat (f g (row.getD g.from'.toNat 0))) (by'.set g.to.toNat g)
      simpa using this
theorem arrivals_ok (h : House) (n0 t : Int) (hfit : h.Fit) (hv : h.V) (hn : 0 ≤ n0 ∧ n0 < (h.rooms.length : Int)) (ht : 0 ≤ t ∧ t ≤ 1073741823) :
    OKv cx 37 [.agg (eHouse h), ai n0, ai t] (.tup [lInt (arrH h n0.toNat t).1, .lst ((arrH h n0.toNat t).2.map eGate)]) := by
  have hrn := hv.rooms
  have hms : (h.rooms.length : Int) * 8 ≤ 281474976710656 := by omega
  have hms2 : (h.rooms.length : Int) ≤ 281474976710656 := by omega
  have hna := hn.1
  have hnb := hn.2
  have hnc : n0.toNat < h.rooms.length := by omega
  refine OKat.of_body (rs := [6, 7]) Tryz.func37 rfl (by decide +kernel) rfl (by simp [Tryz.ntmps37]) ?_
  simp only [Tryz.ntmps37]
  repeat' first
    | apply AW.seq | apply AW.region | apply AW.ret | apply AW.block | apply AW.skip | apply AW.exit | apply AW.scope | apply AW.label | apply AWL.nil
    | ((first | (apply W.step cx_ok; decide) | apply W.store cx_ok | apply AW.cond); (simp (disch := omega) only [push_cast, simprocAttr, hms, hms2] <;> rfl); all_goals try ((with_reducible intro hI); try first | (cases hI; done) | (simp only [INTS] at hI; try first | (exfalso; omega) | (have hT : True := hI; clear hT hI))))
    | ((first | apply W.ret2 | apply W.end2); (iterate 2 (try (simp (disch := omega) only [push_cast, simprocAttr, hms, hms2] <;> rfl))))
  refine AW.loop (fun n s => ∃ (k : Nat) (row : List Int), n = h.rooms.length - k ∧ (row = fillR h.rooms.length k (-1)) ∧ (row.length = h.rooms.length) ∧ (k ≤ h.rooms.length) ∧ 2 ≤ s.nx ∧ s.tm 1 = ai n0 ∧ s.tm 2 = ai t ∧ s.tm 3 = .ptr 0 0 0 1 ∧ s.tm 8 = .ref 1 0 h.rooms.length ∧ s.tm 17 = ai h.rooms.length ∧ s.tm 18 = ai k ∧ Pg.rowAt s.H (0) = some ({ k := 3, es := [eHouse h], ty := 26 }) ∧ Pg.rowAt s.H (1) = some ({ k := 1, es := row.map eInt, ty := 3 })) (h.rooms.length) ⟨0, fillR h.rooms.length 0 (-1), rfl, rfl, (fillR_len (by omega)), (by omega), ?_, ?_, ?_, ?_, ?_, ?_, ?_, ?_, ?_⟩ ?_
  iterate 9 (first | (simp (disch := omega) only [push_cast, simprocAttr, fillR_zero, map_rep0] <;> first | rfl | omega) | omega)
  rintro n s ⟨k, row, hn, hp0, hp1, hp2, hnl, hS⟩
  have hZ : (0 : Nat) ≠ s.nx ∧ s.nx ≠ (0 : Nat) ∧ (1 : Nat) ≠ s.nx ∧ s.nx ≠ (1 : Nat) := by omega
  by_cases hk : k < h.rooms.length
  · have hk1 : (k : Int) < (h.rooms.length : Int) := by omega
    have hk2 : k < row.length := by omega
    repeat' first
      | apply AW.seq | apply AW.region | apply AW.ret | apply AW.block | apply AW.skip | apply AW.exit | apply AW.scope | apply AW.label | apply AWL.nil
      | ((first | (apply W.step cx_ok; decide) | apply W.store cx_ok | apply AW.cond); (simp (disch := omega) only [push_cast, simprocAttr, hS, hZ, hk, hk1, hk2, hp1] <;> rfl); all_goals try ((with_reducible intro hI); try first | (cases hI; done) | (simp only [INTS] at hI; try first | (exfalso; omega) | (have hT : True := hI; clear hT hI))))
      | ((first | apply W.ret2 | apply W.end2); (iterate 2 (try (simp (disch := omega) only [push_cast, simprocAttr, hS, hZ, hk, hk1, hk2, hp1] <;> rfl))))
    all_goals
      (have hset : row.set k (-1) = fillR h.rooms.length (k + 1) (-1) := by rw [hp0]; exact fillR_set hk
       (refine ⟨h.rooms.length - (k + 1), ?_, k + 1, row.set k (-1), rfl, hset, (by rw [List.length_set]; exact hp1), (by omega), ?_, ?_, ?_, ?_, ?_, ?_, ?_, ?_, ?_⟩; (omega); all_goals first | (simp (disch := omega) only [push_cast, simprocAttr, hS, hZ, hk, hk1, hk2, hp1] <;> first | rfl | omega) | omega))
  · have hk1 : ¬ ((k : Int) < (h.rooms.length : Int)) := by omega
    have hkn : k = h.rooms.length := by omega
    have hrow : row = List.replicate h.rooms.length (-1) := by rw [hp0, hkn, fillR_all]
    have hnd : n0.toNat < row.length := by omega
    repeat' first
      | apply AW.seq | apply AW.region | apply AW.ret | apply AW.block | apply AW.skip | apply AW.exit | apply AW.scope | apply AW.label | apply AWL.nil
      | ((first | (apply W.step cx_ok; decide) | apply W.store cx_ok | apply AW.cond); (simp (disch := omega) only [push_cast, simprocAttr, hS, hZ, hk, hk1, hna, hnb, hnd] <;> rfl); all_goals try ((with_reducible intro hI); try first | (cases hI; done) | (simp only [INTS] at hI; try first | (exfalso; omega) | (have hT : True := hI; clear hT hI))))
      | ((first | apply W.ret2 | apply W.end2); (iterate 2 (try (simp (disch := omega) only [push_cast, simprocAttr, hS, hZ, hk, hk1, hna, hnb, hnd] <;> rfl))))
    have hrl : (row.set n0.toNat t).length = h.rooms.length := by rw [List.length_set]; exact hp1
    have hrx : ∀ x ∈ row.set n0.toNat t, x ≤ 1073741823 := fun x hx => by
      rcases List.mem_or_eq_of_mem_set hx with hx | rfl
      · rw [hrow, List.mem_replicate] at hx; omega
      · exact ht.2
    refine W.callm cx_ok (by decide) (f := 63) (caps := []) (by simp (disch := omega) only [push_cast, simprocAttr, hS, hZ, hk, hk1, hna, hnb, hnd]) (spreadA_ok (ri := 1) (c0 := 0) h (row.set n0.toNat t) (by simp (disch := omega) only [push_cast, simprocAttr, hS, hZ, hk, hk1, hna, hnb, hnd] <;> rfl) hfit hv hrl hrx (by simp (disch := omega) only [push_cast, simprocAttr, hS, hZ, hk, hk1, hna, hnb, hnd]; omega) ⟨by simp (disch := omega) only [push_cast, simprocAttr, hS, hZ, hk, hk1, hna, hnb, hnd]; omega, by decide⟩ (by simp (disch := omega) only [push_cast, simprocAttr, hS, hZ, hk, hk1, hna, hnb, hnd]) (by simp (disch := omega) only [push_cast, simprocAttr, hS, hZ, hk, hk1, hna, hnb, hnd])) ?_
    rintro r H' nx' ⟨rfl, hB, hR, hN, hF⟩
    rw [hrow] at hB hR
    have hslen := (spreadF_len (nextH h) (gates h) (spreadM ((List.replicate h.rooms.length (-1)).set n0.toNat t) + 1) ((List.replicate h.rooms.length (-1)).set n0.toNat t) (List.replicate ((List.replicate h.rooms.length (-1 : Int)).set n0.toNat t).length .zero))
    have hA : arrH h n0.toNat t = ((spread (nextH h) (gates h) ((List.replicate h.rooms.length (-1)).set n0.toNat t)).1.map room1, (spread (nextH h) (gates h) ((List.replicate h.rooms.length (-1)).set n0.toNat t)).2) := rfl
    rw [hA]
    have hspl : (spread (nextH h) (gates h) ((List.replicate h.rooms.length (-1)).set n0.toNat t)).1.length = h.rooms.length := by have := hslen.1; simpa [spread] using this
    have hsbl : (spread (nextH h) (gates h) ((List.replicate h.rooms.length (-1)).set n0.toNat t)).2.length = h.rooms.length := by have := hslen.2; simpa [spread] using this
    generalize hsp : (spread (nextH h) (gates h) ((List.replicate h.rooms.length (-1)).set n0.toNat t)).1 = sp at *
    generalize hsb : (spread (nextH h) (gates h) ((List.replicate h.rooms.length (-1)).set n0.toNat t)).2 = sb at *
    clear hsp hsb hA hslen
    have hb0 : 2 ≤ s.nx + 1 := by omega
    simp (disch := omega) only [push_cast] at hB hN
    generalize hb : s.nx + 1 = b0 at *
    have hq1 : (1 : Nat) ≠ b0 := by omega
    have hq2 : b0 ≠ (1 : Nat) := by omega
    repeat' first
      | apply AW.seq | apply AW.region | apply AW.ret | apply AW.block | apply AW.skip | apply AW.exit | apply AW.scope | apply AW.label | apply AWL.nil
      | ((first | (apply W.step cx_ok; decide) | apply W.store cx_ok | apply AW.cond); (simp (disch := omega) only [push_cast, simprocAttr, hS, hZ, hk, hk1, hna, hnb, hnd, hB, hR, hq1, hq2, hb] <;> rfl); all_goals try ((with_reducible intro hI); try first | (cases hI; done) | (simp only [INTS] at hI; try first | (exfalso; omega) | (have hT : True := hI; clear hT hI))))
      | ((first | apply W.ret2 | apply W.end2); (iterate 2 (try (simp (disch := omega) only [push_cast, simprocAttr, hS, hZ, hk, hk1, hna, hnb, hnd, hB, hR, hq1, hq2, hb] <;> rfl))))
    refine AW.loop (fun n s => ∃ (k : Nat) (row2 : List Int), n = h.rooms.length - k ∧ (row2 = mapK sp k) ∧ (row2.length = h.rooms.length) ∧ (k ≤ h.rooms.length) ∧ b0 + 1 ≤ s.nx ∧ s.tm 8 = .ref 1 0 h.rooms.length ∧ s.tm 10 = .ref b0 0 h.rooms.length ∧ s.tm 34 = ai h.rooms.length ∧ s.tm 35 = ai k ∧ Pg.rowAt s.H (1) = some ({ k := 1, es := row2.map eInt, ty := 3 }) ∧ Pg.rowAt s.H (b0) = some ({ k := 6, es := sb.map eGate, ty := 94 })) (h.rooms.length) ⟨0, sp, rfl, (mapK_zero sp).symm, hspl, (by omega), ?_, ?_, ?_, ?_, ?_, ?_, ?_⟩ ?_
    iterate 7 (first | (simp (disch := omega) only [push_cast, simprocAttr, hS, hZ, hk, hk1, hna, hnb, hnd, hB, hR, hq1, hq2, hb] <;> first | rfl | omega) | omega)
    rintro n2 s2 ⟨k2, row22, hn2, hp02, hp12, hp22, hnl2, hS2⟩
    have hZ2 : (1 : Nat) ≠ s2.nx ∧ s2.nx ≠ (1 : Nat) ∧ (b0 : Nat) ≠ s2.nx ∧ s2.nx ≠ (b0 : Nat) := by omega
    by_cases hk' : k2 < h.rooms.length
    · have hk1' : (k2 : Int) < (h.rooms.length : Int) := by omega
      have hk2' : k2 < row22.length := by omega
      have hat : row22.getD k2 0 = sp.getD k2 0 := by rw [hp02]; exact mapK_at (by omega)
      repeat' first
        | apply AW.seq | apply AW.region | apply AW.ret | apply AW.block | apply AW.skip | apply AW.exit | apply AW.scope | apply AW.label | apply AWL.nil
        | ((first | (apply W.step cx_ok; decide) | apply W.store cx_ok | apply AW.cond); (simp (disch := omega) only [push_cast, simprocAttr, hS2, hZ2, hq1, hq2, hk', hk1', hk2', hp12] <;> rfl); all_goals try ((with_reducible intro hI); try first | (cases hI; done) | (simp only [INTS] at hI; try first | (exfalso; omega) | (have hT : True := hI; clear hT hI))))
        | ((first | apply W.ret2 | apply W.end2); (iterate 2 (try (simp (disch := omega) only [push_cast, simprocAttr, hS2, hZ2, hq1, hq2, hk', hk1', hk2', hp12] <;> rfl))))
      all_goals first
        | (have hset : row22.set k2 1073741824 = mapK sp (k2 + 1) := by rw [hp02, ← mapK_set (by omega)]; unfold room1; rw [if_pos (by omega)]
           (refine ⟨h.rooms.length - (k2 + 1), ?_, k2 + 1, row22.set k2 1073741824, rfl, hset, (by rw [List.length_set]; exact hp12), (by omega), ?_, ?_, ?_, ?_, ?_, ?_, ?_⟩; (omega); all_goals first | (simp (disch := omega) only [push_cast, simprocAttr, hS2, hZ2, hk', hk1', hk2', hp12, hq1, hq2] <;> first | rfl | omega) | omega))
        | (have hset : row22 = mapK sp (k2 + 1) := by
             rw [← mapK_set (by omega), ← hp02]; unfold room1; rw [if_neg (by omega), ← hat]
             rw [List.getD_eq_getElem?_getD, List.getElem?_eq_getElem (by omega)]; simp
           (refine ⟨h.rooms.length - (k2 + 1), ?_, k2 + 1, row22, rfl, hset, hp12, (by omega), ?_, ?_, ?_, ?_, ?_, ?_, ?_⟩; (omega); all_goals first | (simp (disch := omega) only [push_cast, simprocAttr, hS2, hZ2, hk', hk1', hk2', hp12, hq1, hq2] <;> first | rfl | omega) | omega))
    · have hk1' : ¬ ((k2 : Int) < (h.rooms.length : Int)) := by omega
      have hkn' : k2 = sp.length := by omega
      have hro : row22 = sp.map room1 := by rw [hp02, hkn', mapK_all]
      repeat' first
        | apply AW.seq | apply AW.region | apply AW.ret | apply AW.block | apply AW.skip | apply AW.exit | apply AW.scope | apply AW.label | apply AWL.nil
        | ((first | (apply W.step cx_ok; decide) | apply W.store cx_ok | apply AW.cond); (simp (disch := omega) only [push_cast, simprocAttr, hS2, hZ2, hq1, hq2, hk1', hp12, hsbl] <;> rfl); all_goals try ((with_reducible intro hI); try first | (cases hI; done) | (simp only [INTS] at hI; try first | (exfalso; omega) | (have hT : True := hI; clear hT hI))))
        | ((first | apply W.ret2 | apply W.end2); (iterate 2 (try (simp (disch := omega) only [push_cast, simprocAttr, hS2, hZ2, hq1, hq2, hk1', hp12, hsbl] <;> rfl))))
      all_goals (show _ = _; rw [hro])
theorem askedOneR_ok (h : House) (n t : Int) (hfit : h.Fit) : OKv cx 36 [.agg (eHouse h), .lst [[ai n]], .lst [[ai t]]] (ai (roomE h n t)) := by
  have := askedOne_ok h n t hfit
  rw [askedE_one] at this; exact this
def earliestH (h : House) (n t : Int) : List Int × Int := if roomE h n t ≠ 0 then ([], roomE h n t) else ((arrH h n.toNat t).1, 0)
theorem Earliest_ok (h : House) (n0 t : Int) (hfit : h.Fit) : OKv cx 13 [.agg (eHouse h), ai n0, ai t] (.tup [lInt (earliestH h n0 t).1, ai (earliestH h n0 t).2]) := by
  by_cases he : roomE h n0 t = 0
  · obtain ⟨hc, hn, ht⟩ := roomE_zero he
    unfold timeOK at ht
    have hE : earliestH h n0 t = ((arrH h n0.toNat t).1, 0) := if_neg (by simp [he])
    refine OKat.of_body (rs := [6, 7]) Tryz.func13 rfl (by decide +kernel) rfl (by simp [Tryz.ntmps13]) ?_
    simp only [Tryz.ntmps13]
    repeat' first
      | apply AW.seq | apply AW.region | apply AW.ret | apply AW.block | apply AW.skip | apply AW.exit | apply AW.scope | apply AW.label | apply AWL.nil
      | ((first | (apply W.step cx_ok; decide) | apply AW.cond); (simp (disch := omega) only [push_cast, simprocAttr, he] <;> rfl); all_goals try ((with_reducible intro hI); try first | (cases hI; done) | (simp only [INTS] at hI; try first | (exfalso; omega) | (have hT : True := hI; clear hT hI))))
      | ((apply W.callv cx_ok; decide); (iterate 2 (simp (disch := omega) only [push_cast, simprocAttr, he] <;> rfl)); (with_reducible first | exact askedOneR_ok _ _ _ hfit | exact arrivals_ok h n0 t hfit (Check_V hc) hn ht); try first | rfl | (simp (disch := omega) only [push_cast, simprocAttr, he] <;> rfl))
      | ((first | apply W.ret2 | apply W.end2); (iterate 2 (try (simp (disch := omega) only [push_cast, simprocAttr, he] <;> rfl))))
    all_goals (show _ = _; rw [hE])
  · have hE : earliestH h n0 t = ([], roomE h n0 t) := if_pos he
    refine OKat.of_body (rs := [6, 7]) Tryz.func13 rfl (by decide +kernel) rfl (by simp [Tryz.ntmps13]) ?_
    simp only [Tryz.ntmps13]
    repeat' first
      | apply AW.seq | apply AW.region | apply AW.ret | apply AW.block | apply AW.skip | apply AW.exit | apply AW.scope | apply AW.label | apply AWL.nil
      | ((first | (apply W.step cx_ok; decide) | apply AW.cond); (simp (disch := omega) only [push_cast, simprocAttr, he] <;> rfl); all_goals try ((with_reducible intro hI); try first | (cases hI; done) | (simp only [INTS] at hI; try first | (exfalso; omega) | (have hT : True := hI; clear hT hI))))
      | ((apply W.callv cx_ok; decide); (iterate 2 (simp (disch := omega) only [push_cast, simprocAttr, he] <;> rfl)); (with_reducible first | exact askedOneR_ok _ _ _ hfit); try first | rfl | (simp (disch := omega) only [push_cast, simprocAttr, he] <;> rfl))
      | ((first | apply W.ret2 | apply W.end2); (iterate 2 (try (simp (disch := omega) only [push_cast, simprocAttr, he] <;> rfl))))
    all_goals (show _ = _; rw [hE]; rfl)
end Go.Proofs.Hz
