/-
  Contracts of functions, proved by going through their code. No conditions.
-/
import Derived.Test.YtmcchoalekmklaaGreatZbb
import Derived.Test.YtmcchoalekmklaaGreatZbc
import Derived.Test.YtmcchoalekmklaaGreatZbd
import Derived.Test.YtmcchoalekmklaaGreatZbe
import Derived.Test.YtmcchoalekmklaaGreatZbf
set_option linter.unusedVariables false
set_option linter.unusedSimpArgs false
set_option maxHeartbeats 8000000
set_option maxRecDepth 10000
namespace Go.Proofs.Hs
open Go Go.Pg Go.Proofs Go.Proofs.Yt
theorem map_repG (n : Nat) : (List.replicate n Gate.zero).map eGate = List.replicate n [ai 0, ab false, ai 0, ai 0, ai 0, ai 0] := by rw [List.map_replicate]; rfl
theorem nextH_lt {h : House} (hv : h.V) {g : Gate} (hg : g.OK h) {x : Int} (h0 : 0 ≤ x) (h1 : x ≤ 1073741824) : nextH h g x < 1073741824 := by
  unfold nextH
  split
  · rename_i hne
    unfold enter at hne ⊢
    split
    · rename_i hc; rw [if_pos hc] at hne; exact absurd rfl hne
    · omega
  · decide
theorem spreadA_ok {H : Nat → Option AO} {nx ri c0 : Nat} {args : List AV} (h : House) (row : List Int) (ha : args = [.agg (eHouse h), .ref ri 0 h.rooms.length, .clo 53 [.ptr c0 0 0 1], .clo 54 []]) (hfit : h.Fit) (hv : h.V) (hrl : row.length = h.rooms.length) (hrx : ∀ x ∈ row, x ≤ 1073741823) (hri : ri < nx) (hc0 : c0 < nx ∧ c0 ≠ ri) (hrc : Pg.rowAt H c0 = some { k := 3, es := [eHouse h], ty := 26 })
    (hr : Pg.rowAt H ri = some { k := 1, es := row.map eInt, ty := 3 }) :
    OKm cx 52 args H nx (fun r H' nx' => r = .ref (nx + 1) 0 h.rooms.length ∧ Pg.rowAt H' (nx + 1) = some { k := 6, es := (spread (nextH h) (gates h) row).2.map eGate, ty := 117 } ∧ Pg.rowAt H' ri = some { k := 1, es := (spread (nextH h) (gates h) row).1.map eInt, ty := 3 } ∧ nx + 2 ≤ nx' ∧ ∀ j, j < nx → j ≠ ri → H' j = H j) := by
  subst ha
  have hrn := hv.rooms
  have hwn := hv.nw
  have hgl := gates_len h
  have hd0 : ri ≠ nx := by omega
  have hd1 : ri ≠ nx + 1 := by omega
  have hd2 : nx + 1 ≠ ri := by omega
  have hms : (h.rooms.length : Int) * 48 ≤ 281474976710656 := by omega
  have hms2 : (h.rooms.length : Int) ≤ 281474976710656 := by omega
  have hc1 : c0 ≠ ri := hc0.2
  have hc2 : ri ≠ c0 := fun e => hc0.2 e.symm
  have hc3 : c0 ≠ nx := by omega
  have hc4 : c0 ≠ nx + 1 := by omega
  refine OKm.of_body kO (rs := [.tmp 8]) Tryz.func52 rfl (by decide +kernel) rfl (by simp [Tryz.ntmps52]) ?_
  simp only [Tryz.ntmps52]
  repeat' first
    | apply jA | apply jB | apply jD | apply jG | apply jH | apply jI
    | ((apply jK kO; decide); (simp (disch := omega) only [push_cast, simprocAttr, hd0, hd1, hd2, hr, hms, hms2, hc1, hc2, hc3, hc4, hrc] <;> rfl))
    | ((apply jV kO; decide); (iterate 2 (simp (disch := omega) only [push_cast, simprocAttr, hd0, hd1, hd2, hr, hms, hms2, hc1, hc2, hc3, hc4, hrc] <;> rfl)); (with_reducible exact gates_ok h hfit.nw); try first | rfl | (simp (disch := omega) only [push_cast, simprocAttr, hd0, hd1, hd2, hr, hms, hms2, hc1, hc2, hc3, hc4, hrc] <;> rfl))
  refine AW.loop (fun n s => ∃ (row1 : List Int) (by1 : List Gate) (k : Nat), n = k ∧ (row1.length = h.rooms.length) ∧ (by1.length = h.rooms.length) ∧ (spreadM row1 < k) ∧ (spreadF (nextH h) (gates h) k row1 by1 = spread (nextH h) (gates h) row) ∧ (∀ x ∈ row1, x ≤ 1073741823) ∧ (∀ j, j < nx → j ≠ ri → s.H j = H j) ∧ nx + 2 ≤ s.nx ∧ s.tm 1 = .ref ri 0 h.rooms.length ∧ s.tm 2 = .clo 53 [.ptr c0 0 0 1] ∧ s.tm 3 = .clo 54 [] ∧ s.tm 9 = .ref (nx + 1) 0 h.rooms.length ∧ s.tm 10 = .lst ((gates h).map eGate) ∧ Pg.rowAt s.H (ri) = some ({ k := 1, es := row1.map eInt, ty := 3 }) ∧ Pg.rowAt s.H (nx + 1) = some ({ k := 6, es := by1.map eGate, ty := 117 }) ∧ Pg.rowAt s.H (c0) = some ({ k := 3, es := [eHouse h], ty := 26 })) ((spreadM row + 1)) ⟨row, List.replicate h.rooms.length .zero, spreadM row + 1, rfl, hrl, (by simp), (Nat.lt_succ_self _), (by rw [← hrl]; rfl), hrx, (by intro j hjlt hjne; simp (disch := omega) only [push_cast, if_neg]), ?_, ?_, ?_, ?_, ?_, ?_, ?_, ?_, ?_⟩ ?_
  iterate 9 (first | (simp (disch := omega) only [push_cast, simprocAttr, hd0, hd1, hd2, hr, hms, hms2, hc1, hc2, hc3, hc4, hrc, map_repG] <;> first | rfl | omega) | omega)
  rintro n s ⟨row1, by1, k, hn, hp0, hp1, hp2, hp3, hp4, hp5, hnl, hS⟩
  have hZ : (ri : Nat) ≠ s.nx ∧ s.nx ≠ (ri : Nat) ∧ (nx + 1 : Nat) ≠ s.nx ∧ s.nx ≠ (nx + 1 : Nat) ∧ (c0 : Nat) ≠ s.nx ∧ s.nx ≠ (c0 : Nat) := by omega
  repeat' first
    | apply jA | apply jB | apply jD | apply jI
    | ((apply jK kO; decide); (simp (disch := omega) only [push_cast, simprocAttr, hS, hZ, hd0, hd1, hd2, hr, hms, hms2, hc1, hc2, hc3, hc4, hrc] <;> rfl))
  refine AW.loop (fun n s => ∃ (j : Nat) (rest : List Gate), n = rest.length ∧ ((gates h).drop j = rest) ∧ ((gates h).find? (impr (nextH h) row1) = rest.find? (impr (nextH h) row1)) ∧ (∀ j, j < nx → j ≠ ri → s.H j = H j) ∧ nx + 2 ≤ s.nx ∧ s.tm 1 = .ref ri 0 h.rooms.length ∧ s.tm 2 = .clo 53 [.ptr c0 0 0 1] ∧ s.tm 3 = .clo 54 [] ∧ s.tm 9 = .ref (nx + 1) 0 h.rooms.length ∧ s.tm 10 = .lst ((gates h).map eGate) ∧ s.tm 19 = .lst ((gates h).map eGate) ∧ s.tm 20 = ai (gates h).length ∧ s.tm 21 = ai j ∧ Pg.rowAt s.H (ri) = some ({ k := 1, es := row1.map eInt, ty := 3 }) ∧ Pg.rowAt s.H (nx + 1) = some ({ k := 6, es := by1.map eGate, ty := 117 }) ∧ Pg.rowAt s.H (c0) = some ({ k := 3, es := [eHouse h], ty := 26 })) ((gates h).length) ⟨0, _, rfl, rfl, rfl, (by intro j hjlt hjne; simp (disch := omega) only [push_cast, if_neg, hp5]), ?_, ?_, ?_, ?_, ?_, ?_, ?_, ?_, ?_, ?_, ?_, ?_⟩ ?_
  iterate 12 (first | (simp (disch := omega) only [push_cast, simprocAttr, hS, hZ, hd0, hd1, hd2, hr, hms, hms2, hc1, hc2, hc3, hc4, hrc] <;> first | rfl | omega) | omega)
  rintro n2 s2 ⟨j2, rest2, hn2, hp02, hp12, hp22, hnl2, hS2⟩
  have hZ2 : (ri : Nat) ≠ s2.nx ∧ s2.nx ≠ (ri : Nat) ∧ (nx + 1 : Nat) ≠ s2.nx ∧ s2.nx ≠ (nx + 1 : Nat) ∧ (c0 : Nat) ≠ s2.nx ∧ s2.nx ≠ (c0 : Nat) := by omega
  obtain ⟨k', rfl⟩ : ∃ k', k = k' + 1 := ⟨k - 1, by omega⟩
  rcases rest2 with _ | ⟨x2, rest2⟩
  · have hk2 := drop_nil hp02
    have hfin : (row1, by1) = spread (nextH h) (gates h) row := by
      rw [← hp3, spreadF, hp12]; rfl
    repeat' first
      | apply jA | apply jB | apply jC | apply jF | apply jI
      | ((first | (apply jK kO; decide) | apply jR); (simp (disch := omega) only [push_cast, simprocAttr, hS2, hZ2, hd0, hd1, hd2, hr, hms, hms2, hc1, hc2, hc3, hc4, hrc, hk2] <;> rfl); all_goals try ((with_reducible intro hI); try first | (cases hI; done) | (simp only [INTS] at hI; try first | (exfalso; omega) | (have hT : True := hI; clear hT hI))))
    all_goals
      (simp only [blockQ, loopQ, scopeQ]
       apply W.retX (vs := [.ref (nx + 1) 0 h.rooms.length])
       · simp (disch := omega) only [push_cast, simprocAttr, hS2, hZ2, hd0, hd1, hd2, hr, hms, hms2, hc1, hc2, hc3, hc4, hrc]
       refine ⟨rfl, ?_, ?_, ?_, ?_⟩
       · rw [← hfin]; (simp (disch := omega) only [push_cast, simprocAttr, hS2, hZ2, hd0, hd1, hd2, hr, hms, hms2, hc1, hc2, hc3, hc4, hrc])
       · rw [← hfin]; (simp (disch := omega) only [push_cast, simprocAttr, hS2, hZ2, hd0, hd1, hd2, hr, hms, hms2, hc1, hc2, hc3, hc4, hrc])
       · (try simp (disch := omega) only [push_cast, simprocAttr, hS2, hZ2, hd0, hd1, hd2, hr, hms, hms2, hc1, hc2, hc3, hc4, hrc]); omega
       · exact (by intro j hjlt hjne; simp (disch := omega) only [push_cast, if_neg, hp22]))
  · obtain ⟨hk2, hg2, hd'2, hl'2, hm2, hx2⟩ := drop_cons hp02 eGate []
    have hgo := gate_ok hv hm2
    have g1 := hgo.from'.1
    have g2 := hgo.from'.2
    have g3 := hgo.to.1
    have g4 := hgo.to.2
    have g5 : x2.from'.toNat < row1.length := by omega
    have g6 : x2.to.toNat < row1.length := by omega
    have g7 : x2.to.toNat < by1.length := by omega
    have g8 : x2.to.toNat < h.rooms.length := by omega
    have hb1 : row1.getD x2.from'.toNat 0 ≤ 1073741823 := hp4 _ (List.mem_of_getElem? (getD_set' row1 x2.from'.toNat 0 g5))
    have hnb := fun hx0 : 0 ≤ row1.getD x2.from'.toNat 0 => nextH_lt hv hgo hx0 (by omega)
    repeat' first
      | apply jA | apply jB | apply jD | apply jE | apply jF | apply jI
      | refine AW.draw (id := 9) cx_mixed [9, 10, 11] [3, 4, 5, 7] [ri, nx + 1] 0 (by decide +kernel) ?_
      | refine W.draw cx_mixed (by decide +kernel) ?_
      | ((first | (apply jK kO; decide) | (apply jL kO; decide; decide) | apply jM kO | (apply jN; rfl; decide) | apply jR); (simp (disch := omega) only [push_cast, simprocAttr, hS2, hZ2, hd0, hd1, hd2, hr, hms, hms2, hc1, hc2, hc3, hc4, hrc, hk2, hg2, g1, g2, g3, g4, g5, g6, g7, g8] <;> rfl); all_goals try ((with_reducible intro hI); try first | (cases hI; done) | (simp only [INTS] at hI; try first | (exfalso; omega) | (have hT : True := hI; clear hT hI))))
      | ((first | (apply D.store kO; decide) | (apply D.stept kO; decide; decide) | (apply D.stepm kO; decide; decide)); (simp (disch := omega) only [push_cast, simprocAttr, hS2, hZ2, hd0, hd1, hd2, hr, hms, hms2, hc1, hc2, hc3, hc4, hrc, hk2, hg2, g1, g2, g3, g4, g5, g6, g7, g8] <;> rfl); try first | exact .inl rfl | exact .inr (by simp))
      | ((first | (apply jV kO; decide) | (apply jW kO; decide; decide)); (iterate 2 (simp (disch := omega) only [push_cast, simprocAttr, hS2, hZ2, hd0, hd1, hd2, hr, hms, hms2, hc1, hc2, hc3, hc4, hrc, hk2, hg2, g1, g2, g3, g4, g5, g6, g7, g8] <;> rfl)); (with_reducible first | exact arrNext_ok h x2 _ hv hgo (by omega) (by omega) | exact better_ok _ _); try first | rfl | (simp (disch := omega) only [push_cast, simprocAttr, hS2, hZ2, hd0, hd1, hd2, hr, hms, hms2, hc1, hc2, hc3, hc4, hrc, hk2, hg2, g1, g2, g3, g4, g5, g6, g7, g8] <;> rfl))
    all_goals first
      | (have hq : impr (nextH h) row1 x2 = false := by rw [Bool.eq_false_iff]; intro hi; rw [impr_iff] at hi; omega
         have hp12' : (gates h).find? (impr (nextH h) row1) = rest2.find? (impr (nextH h) row1) := by rw [hp12, List.find?_cons, hq]
         (refine ⟨rest2.length, ?_, j2 + 1, rest2, rfl, hd'2, hp12', (by intro j hjlt hjne; simp (disch := omega) only [push_cast, if_neg, hp22]), ?_, ?_, ?_, ?_, ?_, ?_, ?_, ?_, ?_, ?_, ?_, ?_⟩; ((simp only [List.length_cons] at *; omega)); all_goals first | (simp (disch := omega) only [push_cast, simprocAttr, hS2, hZ2, hd0, hd1, hd2, hr, hms, hms2, hc1, hc2, hc3, hc4, hrc, hk2, hg2, g1, g2, g3, g4, g5, g6, g7, g8] <;> first | rfl | omega) | omega))
      | (have hq : impr (nextH h) row1 x2 = true := by rw [impr_iff]; omega
         have hi := impr_iff.1 hq
         have hstep : spreadF (nextH h) (gates h) k' (row1.set x2.to.toNat ((nextH h) x2 (row1.getD x2.from'.toNat 0))) (by1.set x2.to.toNat x2) = spread (nextH h) (gates h) row := by
           rw [← hp3, spreadF, hp12, List.find?_cons, hq]
         have hlt := spreadM_lt (row := row1) (i := x2.to.toNat) (x := (nextH h) x2 (row1.getD x2.from'.toNat 0)) (by omega) hi.2.1 (by omega) hi.2.2
         (refine ⟨k', ?_, (row1.set x2.to.toNat ((nextH h) x2 (row1.getD x2.from'.toNat 0))), by1.set x2.to.toNat x2, k', rfl, (by rw [List.length_set]; exact hp0), (by rw [List.length_set]; exact hp1), (by omega), hstep, (fun y hy => by rcases List.mem_or_eq_of_mem_set hy with hy | rfl; exact hp4 y hy; omega), (by intro j hjlt hjne; simp (disch := omega) only [push_cast, if_neg, hp22]), ?_, ?_, ?_, ?_, ?_, ?_, ?_, ?_, ?_⟩; (omega); all_goals first | (simp (disch := omega) only [push_cast, simprocAttr, hS2, hZ2, hd0, hd1, hd2, hr, hms, hms2, hc1, hc2, hc3, hc4, hrc, hk2, hg2, g1, g2, g3, g4, g5, g6, g7, g8] <;> first | rfl | omega) | omega))
end Go.Proofs.Hs

namespace Go.Proofs.Hs
open Go Go.Pg Go.Proofs Go.Proofs.Yt
def mapK (row : List Int) (k : Nat) : List Int := (row.take k).map room1 ++ row.drop k
theorem mapK_len (row : List Int) (k : Nat) : (mapK row k).length = row.length := by simp [mapK]; omega
theorem mapK_zero (row : List Int) : mapK row 0 = row := by simp [mapK]
theorem mapK_all (row : List Int) : mapK row row.length = row.map room1 := by simp [mapK]
theorem mapK_at {row : List Int} {k : Nat} (hk : k < row.length) : (mapK row k).getD k 0 = row.getD k 0 := by
  unfold mapK
  rw [List.getD_eq_getElem?_getD, List.getElem?_append_right (by simp; omega), List.getElem?_drop, List.getD_eq_getElem?_getD]
  congr 2; simp; omega
theorem mapK_set {row : List Int} {k : Nat} (hk : k < row.length) : (mapK row k).set k (room1 (row.getD k 0)) = mapK row (k + 1) := by
  apply List.ext_getElem?
  intro i
  rw [List.getElem?_set, mapK_len]
  unfold mapK
  simp only [List.getElem?_append, List.length_map, List.length_take, List.getElem?_map, List.getElem?_take, List.getElem?_drop]
  rcases Nat.lt_trichotomy i k with h | h | h
  · rw [if_neg (by omega), if_pos (by omega), if_pos (by omega), if_pos (by omega), if_pos (by omega)]
  · subst h
    rw [if_pos rfl, if_pos hk, if_pos (by omega), if_pos (by omega), getD_set' row i 0 hk]; rfl
  · rw [if_neg (by omega), if_neg (by omega), if_neg (by omega)]
    congr 1; omega
def arrH (h : House) (a : Nat) (t : Int) : List Int × List Gate :=
  (((spread (nextH h) (gates h) ((List.replicate h.rooms.length (-1)).set a t)).1.map room1), (spread (nextH h) (gates h) ((List.replicate h.rooms.length (-1)).set a t)).2)
theorem spreadF_len (f : Gate → Int → Int) (gs : List Gate) : ∀ (k : Nat) (row : List Int) (by' : List Gate), (spreadF f gs k row by').1.length = row.length ∧ (spreadF f gs k row by').2.length = by'.length
  | 0, row, by' => ⟨rfl, rfl⟩
  | k + 1, row, by' => by
    unfold spreadF
    split
    · exact ⟨rfl, rfl⟩
    · rename_i g hg
      have := spreadF_len f gs k (row.set g.to.toNat (f g (row.getD g.from'.toNat 0))) (by'.set g.to.toNat g)
      simpa using this
theorem arrivals_ok (h : House) (n0 t : Int) (hfit : h.Fit) (hv : h.V) (hn : 0 ≤ n0 ∧ n0 < (h.rooms.length : Int)) (ht : 0 ≤ t ∧ t ≤ 1073741823) :
    OKv cx 29 [.agg (eHouse h), ai n0, ai t] (.tup [lInt (arrH h n0.toNat t).1, .lst ((arrH h n0.toNat t).2.map eGate)]) := by
  have hrn := hv.rooms
  have hms : (h.rooms.length : Int) * 8 ≤ 281474976710656 := by omega
  have hms2 : (h.rooms.length : Int) ≤ 281474976710656 := by omega
  have hna := hn.1
  have hnb := hn.2
  have hnc : n0.toNat < h.rooms.length := by omega
  refine OKat.of_body (rs := [6, 7]) Tryz.func29 rfl (by decide +kernel) rfl (by simp [Tryz.ntmps29]) ?_
  simp only [Tryz.ntmps29]
  repeat' first
    | apply jA | apply jB | apply jD | apply jI
    | ((apply jK kO; decide); (simp (disch := omega) only [push_cast, simprocAttr, hms, hms2] <;> rfl))
  refine AW.loop (fun n s => ∃ (k : Nat) (row : List Int), n = h.rooms.length - k ∧ (row = fillR h.rooms.length k (-1)) ∧ (row.length = h.rooms.length) ∧ (k ≤ h.rooms.length) ∧ 2 ≤ s.nx ∧ s.tm 1 = ai n0 ∧ s.tm 2 = ai t ∧ s.tm 3 = .ptr 0 0 0 1 ∧ s.tm 8 = .ref 1 0 h.rooms.length ∧ s.tm 17 = ai h.rooms.length ∧ s.tm 18 = ai k ∧ Pg.rowAt s.H (0) = some ({ k := 3, es := [eHouse h], ty := 26 }) ∧ Pg.rowAt s.H (1) = some ({ k := 1, es := row.map eInt, ty := 3 })) (h.rooms.length) ⟨0, fillR h.rooms.length 0 (-1), rfl, rfl, (fillR_len (by omega)), (by omega), ?_, ?_, ?_, ?_, ?_, ?_, ?_, ?_, ?_⟩ ?_
  iterate 9 (first | (simp (disch := omega) only [push_cast, simprocAttr, fillR_zero, map_rep0] <;> first | rfl | omega) | omega)
  rintro n s ⟨k, row, hn, hp0, hp1, hp2, hnl, hS⟩
  have hZ : (0 : Nat) ≠ s.nx ∧ s.nx ≠ (0 : Nat) ∧ (1 : Nat) ≠ s.nx ∧ s.nx ≠ (1 : Nat) := by omega
  by_cases hk : k < h.rooms.length
  · have hk1 : (k : Int) < (h.rooms.length : Int) := by omega
    have hk2 : k < row.length := by omega
    repeat' first
      | apply jA | apply jB | apply jD | apply jE | apply jI
      | ((first | (apply jK kO; decide) | apply jM kO | apply jR); (simp (disch := omega) only [push_cast, simprocAttr, hS, hZ, hk, hk1, hk2, hp1] <;> rfl); all_goals try ((with_reducible intro hI); try first | (cases hI; done) | (simp only [INTS] at hI; try first | (exfalso; omega) | (have hT : True := hI; clear hT hI))))
    all_goals
      (have hset : row.set k (-1) = fillR h.rooms.length (k + 1) (-1) := by rw [hp0]; exact fillR_set hk
       (refine ⟨h.rooms.length - (k + 1), ?_, k + 1, row.set k (-1), rfl, hset, (by rw [List.length_set]; exact hp1), (by omega), ?_, ?_, ?_, ?_, ?_, ?_, ?_, ?_, ?_⟩; (omega); all_goals first | (simp (disch := omega) only [push_cast, simprocAttr, hS, hZ, hk, hk1, hk2, hp1] <;> first | rfl | omega) | omega))
  · have hk1 : ¬ ((k : Int) < (h.rooms.length : Int)) := by omega
    have hkn : k = h.rooms.length := by omega
    have hrow : row = List.replicate h.rooms.length (-1) := by rw [hp0, hkn, fillR_all]
    have hnd : n0.toNat < row.length := by omega
    repeat' first
      | apply jA | apply jB | apply jF | apply jI
      | ((first | (apply jK kO; decide) | apply jM kO | apply jR); (simp (disch := omega) only [push_cast, simprocAttr, hS, hZ, hk, hk1, hna, hnb, hnd] <;> rfl); all_goals try ((with_reducible intro hI); try first | (cases hI; done) | (simp only [INTS] at hI; try first | (exfalso; omega) | (have hT : True := hI; clear hT hI))))
    have hrl : (row.set n0.toNat t).length = h.rooms.length := by rw [List.length_set]; exact hp1
    have hrx : ∀ x ∈ row.set n0.toNat t, x ≤ 1073741823 := fun x hx => by
      rcases List.mem_or_eq_of_mem_set hx with hx | rfl
      · rw [hrow, List.mem_replicate] at hx; omega
      · exact ht.2
    refine W.callm kO (by decide) (f := 52) (caps := []) (by simp (disch := omega) only [push_cast, simprocAttr, hS, hZ, hk, hk1, hna, hnb, hnd]) (spreadA_ok (ri := 1) (c0 := 0) h (row.set n0.toNat t) (by simp (disch := omega) only [push_cast, simprocAttr, hS, hZ, hk, hk1, hna, hnb, hnd] <;> rfl) hfit hv hrl hrx (by simp (disch := omega) only [push_cast, simprocAttr, hS, hZ, hk, hk1, hna, hnb, hnd]; omega) ⟨by simp (disch := omega) only [push_cast, simprocAttr, hS, hZ, hk, hk1, hna, hnb, hnd]; omega, by decide⟩ (by simp (disch := omega) only [push_cast, simprocAttr, hS, hZ, hk, hk1, hna, hnb, hnd]) (by simp (disch := omega) only [push_cast, simprocAttr, hS, hZ, hk, hk1, hna, hnb, hnd])) ?_
    rintro r H' nx' ⟨rfl, hB, hR, hN, hF⟩
    rw [hrow] at hB hR
    have hslen := (spreadF_len (nextH h) (gates h) (spreadM ((List.replicate h.rooms.length (-1)).set n0.toNat t) + 1) ((List.replicate h.rooms.length (-1)).set n0.toNat t) (List.replicate ((List.replicate h.rooms.length (-1 : Int)).set n0.toNat t).length .zero))
    have hA : arrH h n0.toNat t = ((spread (nextH h) (gates h) ((List.replicate h.rooms.length (-1)).set n0.toNat t)).1.map room1, (spread (nextH h) (gates h) ((List.replicate h.rooms.length (-1)).set n0.toNat t)).2) := rfl
    rw [hA]
    have hspl : (spread (nextH h) (gates h) ((List.replicate h.rooms.length (-1)).set n0.toNat t)).1.length = h.rooms.length := by have := hslen.1; simpa [spread] using this
    have hsbl : (spread (nextH h) (gates h) ((List.replicate h.rooms.length (-1)).set n0.toNat t)).2.length = h.rooms.length := by have := hslen.2; simpa [spread] using this
    generalize hsp : (spread (nextH h) (gates h) ((List.replicate h.rooms.length (-1)).set n0.toNat t)).1 = sp at *
    generalize hsb : (spread (nextH h) (gates h) ((List.replicate h.rooms.length (-1)).set n0.toNat t)).2 = sb at *
    clear hsp hsb hA hslen
    have hb0 : 2 ≤ s.nx + 1 := by omega
    simp (disch := omega) only [push_cast] at hB hN
    generalize hb : s.nx + 1 = b0 at *
    have hq1 : (1 : Nat) ≠ b0 := by omega
    have hq2 : b0 ≠ (1 : Nat) := by omega
    repeat' first
      | apply jA | apply jB | apply jD | apply jI
      | ((apply jK kO; decide); (simp (disch := omega) only [push_cast, simprocAttr, hS, hZ, hk, hk1, hna, hnb, hnd, hB, hR, hq1, hq2, hb] <;> rfl))
    refine AW.loop (fun n s => ∃ (k : Nat) (row2 : List Int), n = h.rooms.length - k ∧ (row2 = mapK sp k) ∧ (row2.length = h.rooms.length) ∧ (k ≤ h.rooms.length) ∧ b0 + 1 ≤ s.nx ∧ s.tm 8 = .ref 1 0 h.rooms.length ∧ s.tm 10 = .ref b0 0 h.rooms.length ∧ s.tm 34 = ai h.rooms.length ∧ s.tm 35 = ai k ∧ Pg.rowAt s.H (1) = some ({ k := 1, es := row2.map eInt, ty := 3 }) ∧ Pg.rowAt s.H (b0) = some ({ k := 6, es := sb.map eGate, ty := 117 })) (h.rooms.length) ⟨0, sp, rfl, (mapK_zero sp).symm, hspl, (by omega), ?_, ?_, ?_, ?_, ?_, ?_, ?_⟩ ?_
    iterate 7 (first | (simp (disch := omega) only [push_cast, simprocAttr, hS, hZ, hk, hk1, hna, hnb, hnd, hB, hR, hq1, hq2, hb] <;> first | rfl | omega) | omega)
    rintro n2 s2 ⟨k2, row22, hn2, hp02, hp12, hp22, hnl2, hS2⟩
    have hZ2 : (1 : Nat) ≠ s2.nx ∧ s2.nx ≠ (1 : Nat) ∧ (b0 : Nat) ≠ s2.nx ∧ s2.nx ≠ (b0 : Nat) := by omega
    by_cases hk' : k2 < h.rooms.length
    · have hk1' : (k2 : Int) < (h.rooms.length : Int) := by omega
      have hk2' : k2 < row22.length := by omega
      have hat : row22.getD k2 0 = sp.getD k2 0 := by rw [hp02]; exact mapK_at (by omega)
      repeat' first
        | apply jA | apply jB | apply jD | apply jE | apply jI
        | ((first | (apply jK kO; decide) | apply jM kO | apply jR); (simp (disch := omega) only [push_cast, simprocAttr, hS2, hZ2, hq1, hq2, hk', hk1', hk2', hp12] <;> rfl); all_goals try ((with_reducible intro hI); try first | (cases hI; done) | (simp only [INTS] at hI; try first | (exfalso; omega) | (have hT : True := hI; clear hT hI))))
      all_goals first
        | (have hset : row22.set k2 1073741824 = mapK sp (k2 + 1) := by rw [hp02, ← mapK_set (by omega)]; unfold room1; rw [if_pos (by omega)]
           (refine ⟨h.rooms.length - (k2 + 1), ?_, k2 + 1, row22.set k2 1073741824, rfl, hset, (by rw [List.length_set]; exact hp12), (by omega), ?_, ?_, ?_, ?_, ?_, ?_, ?_⟩; (omega); all_goals first | (simp (disch := omega) only [push_cast, simprocAttr, hS2, hZ2, hk', hk1', hk2', hp12, hq1, hq2] <;> first | rfl | omega) | omega))
        | (have hset : row22 = mapK sp (k2 + 1) := by
             rw [← mapK_set (by omega), ← hp02]; unfold room1; rw [if_neg (by omega), ← hat]
             rw [List.getD_eq_getElem?_getD, List.getElem?_eq_getElem (by omega)]; simp
           (refine ⟨h.rooms.length - (k2 + 1), ?_, k2 + 1, row22, rfl, hset, hp12, (by omega), ?_, ?_, ?_, ?_, ?_, ?_, ?_⟩; (omega); all_goals first | (simp (disch := omega) only [push_cast, simprocAttr, hS2, hZ2, hk', hk1', hk2', hp12, hq1, hq2] <;> first | rfl | omega) | omega))
    · have hk1' : ¬ ((k2 : Int) < (h.rooms.length : Int)) := by omega
      have hkn' : k2 = sp.length := by omega
      have hro : row22 = sp.map room1 := by rw [hp02, hkn', mapK_all]
      repeat' first
        | apply jA | apply jB | apply jC | apply jF | apply jI
        | ((first | (apply jK kO; decide) | apply jR); (simp (disch := omega) only [push_cast, simprocAttr, hS2, hZ2, hq1, hq2, hk1', hp12, hsbl] <;> rfl); all_goals try ((with_reducible intro hI); try first | (cases hI; done) | (simp only [INTS] at hI; try first | (exfalso; omega) | (have hT : True := hI; clear hT hI))))
        | ((apply W.ret2); (iterate 2 (try (simp (disch := omega) only [push_cast, simprocAttr, hS2, hZ2, hq1, hq2, hk1', hp12, hsbl] <;> rfl))))
      all_goals (show _ = _; rw [hro])
theorem askedOneR_ok (h : House) (n t : Int) (hfit : h.Fit) : OKv cx 28 [.agg (eHouse h), .lst [[ai n]], .lst [[ai t]]] (ai (roomE h n t)) := by
  have := askedOne_ok h n t hfit
  rw [askedE_one] at this; exact this
def earliestH (h : House) (n t : Int) : List Int × Int := if roomE h n t ≠ 0 then ([], roomE h n t) else ((arrH h n.toNat t).1, 0)
theorem Earliest_ok (h : House) (n0 t : Int) (hfit : h.Fit) : OKv cx 11 [.agg (eHouse h), ai n0, ai t] (.tup [lInt (earliestH h n0 t).1, ai (earliestH h n0 t).2]) := by
  by_cases he : roomE h n0 t = 0
  · obtain ⟨hc, hn, ht⟩ := roomE_zero he
    unfold timeOK at ht
    have hE : earliestH h n0 t = ((arrH h n0.toNat t).1, 0) := if_neg (by simp [he])
    refine OKat.of_body (rs := [6, 7]) Tryz.func11 rfl (by decide +kernel) rfl (by simp [Tryz.ntmps11]) ?_
    simp only [Tryz.ntmps11]
    repeat' first
      | apply jA | apply jB | apply jC | apply jE | apply jI
      | ((first | (apply jK kO; decide) | apply jR); (simp (disch := omega) only [push_cast, simprocAttr, he] <;> rfl); all_goals try ((with_reducible intro hI); try first | (cases hI; done) | (simp only [INTS] at hI; try first | (exfalso; omega) | (have hT : True := hI; clear hT hI))))
      | ((apply jV kO; decide); (iterate 2 (simp (disch := omega) only [push_cast, simprocAttr, he] <;> rfl)); (with_reducible first | exact askedOneR_ok _ _ _ hfit | exact arrivals_ok h n0 t hfit (Check_V hc) hn ht); try first | rfl | (simp (disch := omega) only [push_cast, simprocAttr, he] <;> rfl))
      | ((apply W.ret2); (iterate 2 (try (simp (disch := omega) only [push_cast, simprocAttr, he] <;> rfl))))
    all_goals (show _ = _; rw [hE])
  · have hE : earliestH h n0 t = ([], roomE h n0 t) := if_pos he
    refine OKat.of_body (rs := [6, 7]) Tryz.func11 rfl (by decide +kernel) rfl (by simp [Tryz.ntmps11]) ?_
    simp only [Tryz.ntmps11]
    repeat' first
      | apply jA | apply jB | apply jC | apply jI
      | ((first | (apply jK kO; decide) | apply jR); (simp (disch := omega) only [push_cast, simprocAttr, he] <;> rfl); all_goals try ((with_reducible intro hI); try first | (cases hI; done) | (simp only [INTS] at hI; try first | (exfalso; omega) | (have hT : True := hI; clear hT hI))))
      | ((apply jV kO; decide); (iterate 2 (simp (disch := omega) only [push_cast, simprocAttr, he] <;> rfl)); (with_reducible exact askedOneR_ok _ _ _ hfit); try first | rfl | (simp (disch := omega) only [push_cast, simprocAttr, he] <;> rfl))
      | ((apply W.ret2); (iterate 2 (try (simp (disch := omega) only [push_cast, simprocAttr, he] <;> rfl))))
    all_goals (show _ = _; rw [hE]; rfl)
end Go.Proofs.Hs

namespace Go.Proofs.Hs
open Go Go.Pg Go.Proofs Go.Proofs.Yt
theorem askedTwo_ok (h : House) (a b ta tb : Int) (hfit : h.Fit) : OKv cx 28 [.agg (eHouse h), .lst [[ai a], [ai b]], .lst [[ai ta], [ai tb]]] (ai (askedE h [a, b] [ta, tb])) :=
  asked_ok h [a, b] [ta, tb] hfit (by simp) (by simp)
theorem askedE_two (h : House) (a b ta tb : Int) : askedE h [a, b] [ta, tb] = if roomE h a ta ≠ 0 then roomE h a ta else roomE h b tb := by
  unfold askedE roomE
  by_cases hc : (Check h).1 ≠ 0
  · rw [if_pos hc, if_pos hc, if_pos hc]
  · rw [if_neg hc, if_neg hc, if_neg hc]
    simp only [List.all_cons, List.all_nil, Bool.and_true, roomB, timeB, Bool.and_eq_true, decide_eq_true_eq]
    by_cases hA : 0 ≤ a ∧ a < (h.rooms.length : Int) <;> by_cases hB : 0 ≤ b ∧ b < (h.rooms.length : Int) <;> by_cases hT : 0 ≤ ta ∧ ta ≤ 1073741823 <;> by_cases hU : 0 ≤ tb ∧ tb ≤ 1073741823 <;> simp [hA, hB, hT, hU]
theorem askedE_two_zero {h : House} {a b ta tb : Int} (he : askedE h [a, b] [ta, tb] = 0) : (Check h).1 = 0 ∧ (0 ≤ a ∧ a < (h.rooms.length : Int)) ∧ (0 ≤ b ∧ b < (h.rooms.length : Int)) ∧ (0 ≤ ta ∧ ta ≤ 1073741823) ∧ (0 ≤ tb ∧ tb ≤ 1073741823) := by
  rw [askedE_two] at he
  split at he
  · rename_i hx; exact absurd he hx
  · rename_i hx
    obtain ⟨h1, h2, h3⟩ := roomE_zero (h := h) (n := a) (t := ta) (by simpa using hx)
    obtain ⟨_, h4, h5⟩ := roomE_zero he
    exact ⟨h1, h2, h4, h3, h5⟩
theorem arrH_len (h : House) (a : Nat) (t : Int) : (arrH h a t).1.length = h.rooms.length ∧ (arrH h a t).2.length = h.rooms.length := by
  have := spreadF_len (nextH h) (gates h) (spreadM ((List.replicate h.rooms.length (-1)).set a t) + 1) ((List.replicate h.rooms.length (-1)).set a t) (List.replicate ((List.replicate h.rooms.length (-1 : Int)).set a t).length .zero)
  unfold arrH spread
  simpa using this
def canH (h : House) (a ta b tb : Int) : Bool × Int := if askedE h [a, b] [ta, tb] ≠ 0 then (false, askedE h [a, b] [ta, tb]) else (decide ((arrH h a.toNat ta).1.getD b.toNat 0 ≤ tb), 0)
def wallH (h : House) (a ta b tb : Int) : List Int × Int := if askedE h [a, b] [ta, tb] ≠ 0 then ([], askedE h [a, b] [ta, tb]) else if (arrH h a.toNat ta).1.getD b.toNat 0 ≤ tb then ([], 5) else ((arrH h a.toNat ta).1, 0)
theorem Can_ok (h : House) (a ta b tb : Int) (hfit : h.Fit) : OKv cx 10 [.agg (eHouse h), ai a, ai ta, ai b, ai tb] (.tup [ab (canH h a ta b tb).1, ai (canH h a ta b tb).2]) := by
  by_cases he : askedE h [a, b] [ta, tb] = 0
  · obtain ⟨hc, hra, hrb, hta, htb⟩ := askedE_two_zero he
    have hl := (arrH_len h a.toNat ta).1
    have hb1 := hrb.1
    have hb2 := hrb.2
    have hb3 : b.toNat < (arrH h a.toNat ta).1.length := by omega
    have hb4 : b < ((arrH h a.toNat ta).1.length : Int) := by omega
    refine OKat.of_body (rs := [10, 11]) Tryz.func10 rfl (by decide +kernel) rfl (by simp [Tryz.ntmps10]) ?_
    simp only [Tryz.ntmps10]
    repeat' first
      | apply jA | apply jB | apply jC | apply jE | apply jI
      | ((first | (apply jK kO; decide) | apply jR); (simp (disch := omega) only [push_cast, simprocAttr, he, hb1, hb2, hb3, hb4] <;> rfl); all_goals try ((with_reducible intro hI); try first | (cases hI; done) | (simp only [INTS] at hI; try first | (exfalso; omega) | (have hT : True := hI; clear hT hI))))
      | ((apply jV kO; decide); (iterate 2 (simp (disch := omega) only [push_cast, simprocAttr, he, hb1, hb2, hb3, hb4] <;> rfl)); (with_reducible first | exact askedTwo_ok _ _ _ _ _ hfit | exact arrivals_ok h a ta hfit (Check_V hc) hra hta); try first | rfl | (simp (disch := omega) only [push_cast, simprocAttr, he, hb1, hb2, hb3, hb4] <;> rfl))
      | ((apply W.ret2); (iterate 2 (try (simp (disch := omega) only [push_cast, simprocAttr, he, hb1, hb2, hb3, hb4] <;> rfl))))
    all_goals (show _ = _; unfold canH; rw [if_neg (by simp [he])]; first | done | rfl | (rw [if_pos (by assumption)]; rfl) | (rw [if_neg (by omega)]) | (simp [*]; done))
  ·
    refine OKat.of_body (rs := [10, 11]) Tryz.func10 rfl (by decide +kernel) rfl (by simp [Tryz.ntmps10]) ?_
    simp only [Tryz.ntmps10]
    repeat' first
      | apply jA | apply jB | apply jC | apply jI
      | ((first | (apply jK kO; decide) | apply jR); (simp (disch := omega) only [push_cast, simprocAttr, he] <;> rfl); all_goals try ((with_reducible intro hI); try first | (cases hI; done) | (simp only [INTS] at hI; try first | (exfalso; omega) | (have hT : True := hI; clear hT hI))))
      | ((apply jV kO; decide); (iterate 2 (simp (disch := omega) only [push_cast, simprocAttr, he] <;> rfl)); (with_reducible exact askedTwo_ok _ _ _ _ _ hfit); try first | rfl | (simp (disch := omega) only [push_cast, simprocAttr, he] <;> rfl))
      | ((apply W.ret2); (iterate 2 (try (simp (disch := omega) only [push_cast, simprocAttr, he] <;> rfl))))
    all_goals (show _ = _; unfold canH; rw [if_pos he]; try rfl)
theorem Wall_ok (h : House) (a ta b tb : Int) (hfit : h.Fit) : OKv cx 18 [.agg (eHouse h), ai a, ai ta, ai b, ai tb] (.tup [lInt (wallH h a ta b tb).1, ai (wallH h a ta b tb).2]) := by
  by_cases he : askedE h [a, b] [ta, tb] = 0
  · obtain ⟨hc, hra, hrb, hta, htb⟩ := askedE_two_zero he
    have hl := (arrH_len h a.toNat ta).1
    have hb1 := hrb.1
    have hb2 := hrb.2
    have hb3 : b.toNat < (arrH h a.toNat ta).1.length := by omega
    have hb4 : b < ((arrH h a.toNat ta).1.length : Int) := by omega
    refine OKat.of_body (rs := [10, 11]) Tryz.func18 rfl (by decide +kernel) rfl (by simp [Tryz.ntmps18]) ?_
    simp only [Tryz.ntmps18]
    repeat' first
      | apply jA | apply jB | apply jC | apply jE | apply jI
      | ((first | (apply jK kO; decide) | apply jR); (simp (disch := omega) only [push_cast, simprocAttr, he, hb1, hb2, hb3, hb4] <;> rfl); all_goals try ((with_reducible intro hI); try first | (cases hI; done) | (simp only [INTS] at hI; try first | (exfalso; omega) | (have hT : True := hI; clear hT hI))))
      | ((apply jV kO; decide); (iterate 2 (simp (disch := omega) only [push_cast, simprocAttr, he, hb1, hb2, hb3, hb4] <;> rfl)); (with_reducible first | exact askedTwo_ok _ _ _ _ _ hfit | exact arrivals_ok h a ta hfit (Check_V hc) hra hta); try first | rfl | (simp (disch := omega) only [push_cast, simprocAttr, he, hb1, hb2, hb3, hb4] <;> rfl))
      | ((apply W.ret2); (iterate 2 (try (simp (disch := omega) only [push_cast, simprocAttr, he, hb1, hb2, hb3, hb4] <;> rfl))))
    all_goals (show _ = _; unfold wallH; rw [if_neg (by simp [he])]; first | done | rfl | (rw [if_pos (by assumption)]; rfl) | (rw [if_neg (by omega)]) | (simp [*]; done))
  ·
    refine OKat.of_body (rs := [10, 11]) Tryz.func18 rfl (by decide +kernel) rfl (by simp [Tryz.ntmps18]) ?_
    simp only [Tryz.ntmps18]
    repeat' first
      | apply jA | apply jB | apply jC | apply jI
      | ((first | (apply jK kO; decide) | apply jR); (simp (disch := omega) only [push_cast, simprocAttr, he] <;> rfl); all_goals try ((with_reducible intro hI); try first | (cases hI; done) | (simp only [INTS] at hI; try first | (exfalso; omega) | (have hT : True := hI; clear hT hI))))
      | ((apply jV kO; decide); (iterate 2 (simp (disch := omega) only [push_cast, simprocAttr, he] <;> rfl)); (with_reducible exact askedTwo_ok _ _ _ _ _ hfit); try first | rfl | (simp (disch := omega) only [push_cast, simprocAttr, he] <;> rfl))
      | ((apply W.ret2); (iterate 2 (try (simp (disch := omega) only [push_cast, simprocAttr, he] <;> rfl))))
    all_goals (show _ = _; unfold wallH; rw [if_pos he]; try rfl)
def neverB (x : Int) : Bool := decide (0 ≤ x) && decide (x ≤ 1073741824)
def fineG (h : House) (l : List Int) (g : Gate) : Bool := !(timeB (l.getD g.from'.toNat 0) && decide (enter h g (l.getD g.from'.toNat 0) < l.getD g.to.toNat 0))
def isWall (h : House) (a ta b tb : Int) (l : List Int) : Bool :=
  decide (l.length = h.rooms.length) && (l.all neverB && (decide (l.getD a.toNat 0 ≤ ta) && (decide (tb < l.getD b.toNat 0) && (gates h).all (fineG h l))))
def checkWallH (h : House) (a ta b tb : Int) (l : List Int) : Int := if askedE h [a, b] [ta, tb] ≠ 0 then askedE h [a, b] [ta, tb] else if isWall h a ta b tb l = true then 0 else 8
theorem CheckWall_ok (h : House) (a ta b tb : Int) (l : List Int) (hfit : h.Fit) (hll : l.length ≤ 1099511627776) : OKv cx 13 [.agg (eHouse h), ai a, ai ta, ai b, ai tb, lInt l] (ai (checkWallH h a ta b tb l)) := by
  by_cases he : askedE h [a, b] [ta, tb] = 0
  · obtain ⟨hc, hra, hrb, hta, htb⟩ := askedE_two_zero he
    have hv := Check_V hc
    have hgl := gates_len h
    have hwn := hv.nw
    have hrn := hv.rooms
    have hW : checkWallH h a ta b tb l = if isWall h a ta b tb l = true then 0 else 8 := if_neg (by simp [he])
    rw [hW]
    by_cases hln : l.length = h.rooms.length
    · have hle : (l.length : Int) = (h.rooms.length : Int) := by omega
      have ha1 := hra.1
      have ha2 : a < (l.length : Int) := by omega
      have ha3 : a.toNat < l.length := by omega
      have ha4 := hra.2
      have hb1 := hrb.1
      have hb2 : b < (l.length : Int) := by omega
      have hb3 : b.toNat < l.length := by omega
      have hb4 := hrb.2
      have hIW : isWall h a ta b tb l = (l.all neverB && (decide (l.getD a.toNat 0 ≤ ta) && (decide (tb < l.getD b.toNat 0) && (gates h).all (fineG h l)))) := by
        unfold isWall; rw [decide_eq_true hln, Bool.true_and]
      refine OKat.of_body (rs := [12]) Tryz.func13 rfl (by decide +kernel) rfl (by simp [Tryz.ntmps13]) ?_
      simp only [Tryz.ntmps13]
      repeat' first
        | apply jA | apply jB | apply jD | apply jE | apply jI
        | ((first | (apply jK kO; decide) | apply jR); (simp (disch := omega) only [push_cast, simprocAttr, he, ha1, ha2, ha3, ha4, hb1, hb2, hb3, hb4] <;> rfl); all_goals try ((with_reducible intro hI); try first | (cases hI; done) | (simp only [INTS] at hI; try first | (exfalso; omega) | (have hT : True := hI; clear hT hI))))
        | ((apply jV kO; decide); (iterate 2 (simp (disch := omega) only [push_cast, simprocAttr, he, ha1, ha2, ha3, ha4, hb1, hb2, hb3, hb4] <;> rfl)); (with_reducible exact askedTwo_ok _ _ _ _ _ hfit); try first | rfl | (simp (disch := omega) only [push_cast, simprocAttr, he, ha1, ha2, ha3, ha4, hb1, hb2, hb3, hb4] <;> rfl))
      refine AW.loop (fun n s => ∃ (k : Nat) (rest : List Int), n = rest.length ∧ (l.drop k = rest) ∧ (rest.all neverB = l.all neverB) ∧ 1 ≤ s.nx ∧ s.tm 1 = ai a ∧ s.tm 2 = ai ta ∧ s.tm 3 = ai b ∧ s.tm 4 = ai tb ∧ s.tm 5 = lInt l ∧ s.tm 6 = .ptr 0 0 0 1 ∧ s.tm 35 = lInt l ∧ s.tm 36 = ai l.length ∧ s.tm 37 = ai k ∧ Pg.rowAt s.H (0) = some ({ k := 3, es := [eHouse h], ty := 26 })) (l.length) ⟨0, _, rfl, rfl, rfl, ?_, ?_, ?_, ?_, ?_, ?_, ?_, ?_, ?_, ?_, ?_⟩ ?_
      iterate 11 (first | (simp (disch := omega) only [push_cast, simprocAttr, he, ha1, ha2, ha3, ha4, hb1, hb2, hb3, hb4] <;> first | rfl | omega) | omega)
      rintro n s ⟨k, rest, hn, hp0, hp1, hnl, hS⟩
      have hZ : (0 : Nat) ≠ s.nx ∧ s.nx ≠ (0 : Nat) := by omega
      rcases rest with _ | ⟨x, rest⟩
      · have hk := drop_nil hp0
        have hall : l.all neverB = true := by rw [← hp1]; rfl
        repeat' first
          | apply jA | apply jB | apply jC | apply jD | apply jE | apply jF | apply jI
          | ((first | (apply jK kO; decide) | (apply jN; rfl; decide) | apply jR); (simp (disch := omega) only [push_cast, simprocAttr, hS, hZ, hk, he, ha1, ha2, ha3, ha4, hb1, hb2, hb3, hb4] <;> rfl); all_goals try ((with_reducible intro hI); try first | (cases hI; done) | (simp only [INTS] at hI; try first | (exfalso; omega) | (have hT : True := hI; clear hT hI))))
          | ((apply jV kO; decide); (iterate 2 (simp (disch := omega) only [push_cast, simprocAttr, hS, hZ, hk, he, ha1, ha2, ha3, ha4, hb1, hb2, hb3, hb4] <;> rfl)); (with_reducible exact gates_ok h hfit.nw); try first | rfl | (simp (disch := omega) only [push_cast, simprocAttr, hS, hZ, hk, he, ha1, ha2, ha3, ha4, hb1, hb2, hb3, hb4] <;> rfl))
          | ((apply W.ret1); (iterate 2 (try (simp (disch := omega) only [push_cast, simprocAttr, hS, hZ, hk, he, ha1, ha2, ha3, ha4, hb1, hb2, hb3, hb4] <;> rfl))))
        all_goals try
          (have hf : isWall h a ta b tb l = false := by
             rw [hIW, hall]; simp only [Bool.true_and, Bool.and_eq_false_iff, decide_eq_false_iff_not]; omega
           show _ = _; rw [hf]; rfl)
        have hI2 : isWall h a ta b tb l = (gates h).all (fineG h l) := by
          rw [hIW, hall, decide_eq_true (by omega), decide_eq_true (by omega)]; rfl
        refine AW.loop (fun n s => ∃ (k : Nat) (rest : List Gate), n = rest.length ∧ ((gates h).drop k = rest) ∧ (rest.all (fineG h l) = (gates h).all (fineG h l)) ∧ 1 ≤ s.nx ∧ s.tm 5 = lInt l ∧ s.tm 6 = .ptr 0 0 0 1 ∧ s.tm 63 = .lst ((gates h).map eGate) ∧ s.tm 64 = ai (gates h).length ∧ s.tm 65 = ai k ∧ Pg.rowAt s.H (0) = some ({ k := 3, es := [eHouse h], ty := 26 })) ((gates h).length) ⟨0, _, rfl, rfl, rfl, ?_, ?_, ?_, ?_, ?_, ?_, ?_⟩ ?_
        iterate 7 (first | (simp (disch := omega) only [push_cast, simprocAttr, hS, hZ, hk, he, ha1, ha2, ha3, ha4, hb1, hb2, hb3, hb4] <;> first | rfl | omega) | omega)
        rintro n2 s2 ⟨k2, rest2, hn2, hp02, hp12, hnl2, hS2⟩
        have hZ2 : (0 : Nat) ≠ s2.nx ∧ s2.nx ≠ (0 : Nat) := by omega
        rcases rest2 with _ | ⟨x2, rest2⟩
        · have hk2 := drop_nil hp02
          repeat' first
            | apply jA | apply jB | apply jC | apply jF | apply jI
            | ((first | (apply jK kO; decide) | apply jR); (simp (disch := omega) only [push_cast, simprocAttr, hS2, hZ2, hk2] <;> rfl); all_goals try ((with_reducible intro hI); try first | (cases hI; done) | (simp only [INTS] at hI; try first | (exfalso; omega) | (have hT : True := hI; clear hT hI))))
            | ((apply W.ret1); (iterate 2 (try (simp (disch := omega) only [push_cast, simprocAttr, hS2, hZ2, hk2] <;> rfl))))
          all_goals (show _ = _; rw [hI2, ← hp12]; rfl)
        · obtain ⟨hk2, hg2, hd'2, hl'2, hm2, hx2⟩ := drop_cons hp02 eGate []
          have hgo := gate_ok hv hm2
          have g1 := hgo.from'.1
          have g2 : x2.from' < (l.length : Int) := by have := hgo.from'.2; omega
          have g3 := hgo.to.1
          have g4 : x2.to < (l.length : Int) := by have := hgo.to.2; omega
          have g5 : x2.from'.toNat < l.length := by omega
          have g6 : x2.to.toNat < l.length := by omega
          have hx0 : neverB (l.getD x2.from'.toNat 0) = true := List.all_eq_true.1 hall _ (List.mem_of_getElem? (getD_set' l x2.from'.toNat 0 g5))
          simp only [neverB, Bool.and_eq_true, decide_eq_true_eq] at hx0
          repeat' first
            | apply jA | apply jB | apply jC | apply jD | apply jE | apply jI | apply jJ
            | refine W.draw cx_mixed (by decide +kernel) ?_
            | ((first | (apply jK kO; decide) | (apply jL kO; decide; decide) | apply jM kO | (apply jO; rfl; decide; decide) | apply jR); (simp (disch := omega) only [push_cast, simprocAttr, hS2, hZ2, hk2, hg2, g1, g2, g3, g4, g5, g6] <;> rfl); all_goals try ((with_reducible intro hI); try first | (cases hI; done) | (simp only [INTS] at hI; try first | (exfalso; omega) | (have hT : True := hI; clear hT hI))))
            | ((apply jW kO; decide; decide); (iterate 2 (simp (disch := omega) only [push_cast, simprocAttr, hS2, hZ2, hk2, hg2, g1, g2, g3, g4, g5, g6] <;> rfl)); (with_reducible first | exact time_ok _ | exact enter_ok h x2 _ hv hgo (by omega) (by omega)); try first | rfl | (simp (disch := omega) only [push_cast, simprocAttr, hS2, hZ2, hk2, hg2, g1, g2, g3, g4, g5, g6] <;> rfl))
            | ((apply W.ret1); (iterate 2 (try (simp (disch := omega) only [push_cast, simprocAttr, hS2, hZ2, hk2, hg2, g1, g2, g3, g4, g5, g6] <;> rfl))))
          all_goals first
            | (have hq : fineG h l x2 = true := by
                 simp only [fineG, timeB, Bool.not_eq_true', Bool.and_eq_false_iff, decide_eq_false_iff_not]; omega
               rw [List.all_cons, hq, Bool.true_and] at hp12
               (refine ⟨rest2.length, ?_, k2 + 1, rest2, rfl, hd'2, hp12, ?_, ?_, ?_, ?_, ?_, ?_, ?_⟩; ((simp only [List.length_cons] at *; omega)); all_goals first | (simp (disch := omega) only [push_cast, simprocAttr, hS2, hZ2, hg2, hk2] <;> first | rfl | omega) | omega))
            | (have hq : fineG h l x2 = false := by
                 simp only [fineG, timeB, Bool.not_eq_false', Bool.and_eq_true, decide_eq_true_eq]; omega
               show _ = _; rw [hI2, ← hp12, List.all_cons, hq]; rfl)
      · obtain ⟨hk, hg, hd', hl', hm, hx⟩ := drop_cons hp0 eInt []
        repeat' first
          | apply jA | apply jB | apply jC | apply jD | apply jE | apply jI
          | ((first | (apply jK kO; decide) | (apply jN; rfl; decide) | apply jR); (simp (disch := omega) only [push_cast, simprocAttr, hS, hZ, hk, hg, he, ha1, ha2, ha3, ha4, hb1, hb2, hb3, hb4] <;> rfl); all_goals try ((with_reducible intro hI); try first | (cases hI; done) | (simp only [INTS] at hI; try first | (exfalso; omega) | (have hT : True := hI; clear hT hI))))
          | ((apply W.ret1); (iterate 2 (try (simp (disch := omega) only [push_cast, simprocAttr, hS, hZ, hk, hg, he, ha1, ha2, ha3, ha4, hb1, hb2, hb3, hb4] <;> rfl))))
        all_goals first
          | (have hq : neverB x = false := by simp only [neverB, Bool.and_eq_false_iff, decide_eq_false_iff_not]; omega
             show _ = _; rw [hIW, ← hp1, List.all_cons, hq]; rfl)
          | (have hq : neverB x = true := by simp only [neverB, Bool.and_eq_true, decide_eq_true_eq]; omega
             rw [List.all_cons, hq, Bool.true_and] at hp1
             (refine ⟨rest.length, ?_, k + 1, rest, rfl, hd', hp1, ?_, ?_, ?_, ?_, ?_, ?_, ?_, ?_, ?_, ?_, ?_⟩; ((simp only [List.length_cons] at *; omega)); all_goals first | (simp (disch := omega) only [push_cast, simprocAttr, hS, hZ, hg, hk] <;> first | rfl | omega) | omega))
    · have hle : ¬ (l.length : Int) = (h.rooms.length : Int) := by omega
      have hIW : isWall h a ta b tb l = false := by unfold isWall; rw [decide_eq_false hln]; rfl
      refine OKat.of_body (rs := [12]) Tryz.func13 rfl (by decide +kernel) rfl (by simp [Tryz.ntmps13]) ?_
      simp only [Tryz.ntmps13]
      repeat' first
        | apply jA | apply jB | apply jC | apply jE | apply jI
        | ((first | (apply jK kO; decide) | apply jR); (simp (disch := omega) only [push_cast, simprocAttr, he] <;> rfl); all_goals try ((with_reducible intro hI); try first | (cases hI; done) | (simp only [INTS] at hI; try first | (exfalso; omega) | (have hT : True := hI; clear hT hI))))
        | ((apply jV kO; decide); (iterate 2 (simp (disch := omega) only [push_cast, simprocAttr, he] <;> rfl)); (with_reducible exact askedTwo_ok _ _ _ _ _ hfit); try first | rfl | (simp (disch := omega) only [push_cast, simprocAttr, he] <;> rfl))
        | ((apply W.ret1); (iterate 2 (try (simp (disch := omega) only [push_cast, simprocAttr, he] <;> rfl))))
      all_goals (show _ = _; rw [hIW]; rfl)
  · have hW : checkWallH h a ta b tb l = askedE h [a, b] [ta, tb] := if_pos he
    refine OKat.of_body (rs := [12]) Tryz.func13 rfl (by decide +kernel) rfl (by simp [Tryz.ntmps13]) ?_
    simp only [Tryz.ntmps13]
    repeat' first
      | apply jA | apply jB | apply jC | apply jI
      | ((first | (apply jK kO; decide) | apply jR); (simp (disch := omega) only [push_cast, simprocAttr, he] <;> rfl); all_goals try ((with_reducible intro hI); try first | (cases hI; done) | (simp only [INTS] at hI; try first | (exfalso; omega) | (have hT : True := hI; clear hT hI))))
      | ((apply jV kO; decide); (iterate 2 (simp (disch := omega) only [push_cast, simprocAttr, he] <;> rfl)); (with_reducible exact askedTwo_ok _ _ _ _ _ hfit); try first | rfl | (simp (disch := omega) only [push_cast, simprocAttr, he] <;> rfl))
      | ((apply W.ret1); (iterate 2 (try (simp (disch := omega) only [push_cast, simprocAttr, he] <;> rfl))))
    all_goals (show _ = _; rw [hW])
end Go.Proofs.Hs

namespace Go.Proofs.Hs
open Go Go.Pg Go.Proofs Go.Proofs.Yt
theorem arrH_eq {h : House} (hv : h.V) {n t : Int} (hn : 0 ≤ n ∧ n < (h.rooms.length : Int)) (ht : 0 ≤ t ∧ t ≤ 1073741823) : (arrH h n.toNat t).1 = arrR h n.toNat t := spread_is hv (by omega) ht
theorem lateF_len (f : Gate → Int → Int) (gs : List Gate) : ∀ (k : Nat) (row : List Int), (lateF f gs k row).length = row.length := by
  have hstep : ∀ (l : List Gate) (p : List Int × Bool), (l.foldl (lateStep f) p).1.length = p.1.length := by
    intro l
    induction l with
    | nil => intro p; rfl
    | cons g l ih =>
      intro p
      rw [List.foldl_cons, ih]
      unfold lateStep
      split
      · rfl
      · split
        · simp
        · rfl
  intro k
  induction k with
  | zero => intro row; rfl
  | succ k ih =>
    intro row
    unfold lateF
    split
    · rw [ih, hstep]
    · rw [hstep]
end Go.Proofs.Hs
