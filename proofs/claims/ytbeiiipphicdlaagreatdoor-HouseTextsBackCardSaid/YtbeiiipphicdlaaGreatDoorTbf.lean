/-
  Contracts of functions, proved by going through their code. No conditions.
-/
import Derived.Test.YtbeiiipphicdlaaGreatDoorTbe
set_option linter.unusedVariables false
set_option linter.unusedSimpArgs false
set_option maxHeartbeats 8000000
set_option maxRecDepth 10000
namespace Go.Proofs.Hz
open Go Go.Pg Go.Proofs
theorem rep_step (k m : Nat) (a b : Int) : (List.replicate k a ++ List.replicate (m + 1) b).set k a = List.replicate (k + 1) a ++ List.replicate m b := by
  apply List.ext_getElem?
  intro i
  rw [List.getElem?_set]
  simp only [List.getElem?_append, List.getElem?_replicate, List.length_replicate, List.length_append]
  split
  · subst_vars; simp
  · split
    · rw [if_pos (by omega), if_pos (by omega)]
    · split
      · rw [if_neg (by omega), if_pos (by omega)]
      · rw [if_neg (by omega), if_neg (by omega)]
def fillR (n k : Nat) (a : Int) : List Int := List.replicate k a ++ List.replicate (n - k) 0
theorem fillR_len {n k : Nat} {a : Int} (h : k ≤ n) : (fillR n k a).length = n := by simp [fillR]; omega
theorem fillR_set {n k : Nat} {a : Int} (h : k < n) : (fillR n k a).set k a = fillR n (k + 1) a := by
  unfold fillR
  rw [show n - k = (n - (k + 1)) + 1 by omega, rep_step]
theorem fillR_zero (n : Nat) (a : Int) : fillR n 0 a = List.replicate n 0 := by simp [fillR]
theorem fillR_all (n : Nat) (a : Int) : fillR n n a = List.replicate n a := by simp [fillR]
theorem map_rep0 (n : Nat) : (List.replicate n (0 : Int)).map eInt = List.replicate n [ai 0] := by rw [List.map_replicate]
def latestH (h : House) (n t : Int) : List Int × Int := if roomE h n t ≠ 0 then ([], roomE h n t) else (late h n.toNat t, 0)
theorem late_step1 {h : House} (hv : h.V) {a : Nat} {t : Int} {g : Gate} (hg : g ∈ gates h) {row : List Int} (ch : Bool) (hp : Lab.RowOK (depN h) h.rooms.length a t row) : Lab.RowOK (depN h) h.rooms.length a t (lateStep (depart h) (row, ch) g).1 :=
  (late_pass hv [g] row ch (by simpa using hg) hp).1
theorem Latest_ok (h : House) (n0 t : Int) (hfit : h.Fit) : OKv cx 14 [.agg (eHouse h), ai n0, ai t] (.tup [lInt (latestH h n0 t).1, ai (latestH h n0 t).2]) := by
  by_cases he : roomE h n0 t = 0
  · obtain ⟨hc, hn, ht⟩ := roomE_zero he
    unfold timeOK at ht
    have hv := Check_V hc
    have hrn := hv.rooms
    have hgl := gates_len h
    have hwn := hv.nw
    have hL : latestH h n0 t = (late h n0.toNat t, 0) := if_neg (by simp [he])
    have hms : (h.rooms.length : Int) * 8 ≤ 281474976710656 := by omega
    have hms2 : (h.rooms.length : Int) ≤ 281474976710656 := by omega
    have hna := hn.1
    have hnb := hn.2
    have hnc : n0.toNat < h.rooms.length := by omega
    rw [hL]
    refine OKat.of_body (rs := [6, 7]) Tryz.func14 rfl (by decide +kernel) rfl (by simp [Tryz.ntmps14]) ?_
    simp only [Tryz.ntmps14]
    repeat' first
      | apply AW.seq | apply AW.region | apply AW.ret | apply AW.block | apply AW.skip | apply AW.exit | apply AW.scope | apply AW.label | apply AWL.nil | apply D.nil
      | refine W.draw cx_mixed (by decide +kernel) ?_
      | ((first | (apply W.step cx_ok; decide) | (apply D.step cx_ok; decide; decide) | apply W.store cx_ok | apply AW.cond); (simp (disch := omega) only [push_cast, simprocAttr, he, askedE_one, hms, hms2] <;> rfl); all_goals try ((with_reducible intro hI); try first | (cases hI; done) | (simp only [INTS] at hI; try first | (exfalso; omega) | (have hT : True := hI; clear hT hI))))
      | ((first | (apply W.callv cx_ok; decide) | (apply D.callv cx_ok; decide; decide)); (iterate 2 (simp (disch := omega) only [push_cast, simprocAttr, he, askedE_one, hms, hms2] <;> rfl)); (with_reducible first | exact askedOne_ok _ _ _ hfit); try first | rfl | (simp (disch := omega) only [push_cast, simprocAttr, he, askedE_one, hms, hms2] <;> rfl))
      | ((first | apply W.ret2 | apply W.end2); (iterate 2 (try (simp (disch := omega) only [push_cast, simprocAttr, he, askedE_one, hms, hms2] <;> rfl))))
    refine AW.loop (fun n s => ∃ (k : Nat) (row : List Int), n = h.rooms.length - k ∧ (row = fillR h.rooms.length k (-1)) ∧ (row.length = h.rooms.length) ∧ (k ≤ h.rooms.length) ∧ 4 ≤ s.nx ∧ s.tm 1 = ai n0 ∧ s.tm 2 = ai t ∧ s.tm 3 = .ptr 0 0 0 1 ∧ s.tm 9 = .ref 3 0 h.rooms.length ∧ s.tm 30 = ai h.rooms.length ∧ s.tm 31 = ai k ∧ Pg.rowAt s.H (0) = some ({ k := 3, es := [eHouse h], ty := 26 }) ∧ Pg.rowAt s.H (3) = some ({ k := 1, es := row.map eInt, ty := 3 })) (h.rooms.length) ⟨0, fillR h.rooms.length 0 (-1), rfl, rfl, (fillR_len (by omega)), (by omega), ?_, ?_, ?_, ?_, ?_, ?_, ?_, ?_, ?_⟩ ?_
    iterate 9 (first | (simp (disch := omega) only [push_cast, simprocAttr, fillR_zero, map_rep0, he, askedE_one] <;> first | rfl | omega) | omega)
    rintro n s ⟨k, row, hn, hp0, hp1, hp2, hnl, hS⟩
    have hZ : (0 : Nat) ≠ s.nx ∧ s.nx ≠ (0 : Nat) ∧ (3 : Nat) ≠ s.nx ∧ s.nx ≠ (3 : Nat) := by omega
    by_cases hk : k < h.rooms.length
    · have hk1 : (k : Int) < (h.rooms.length : Int) := by omega
      have hk2 : k < row.length := by omega
      repeat' first
        | apply AW.seq | apply AW.region | apply AW.ret | apply AW.block | apply AW.skip | apply AW.exit | apply AW.scope | apply AW.label | apply AWL.nil | apply D.nil
        | refine W.draw cx_mixed (by decide +kernel) ?_
        | ((first | (apply W.step cx_ok; decide) | (apply D.step cx_ok; decide; decide) | apply W.store cx_ok | apply AW.cond); (simp (disch := omega) only [push_cast, simprocAttr, hS, hZ, hk, hk1, hk2, hp1] <;> rfl); all_goals try ((with_reducible intro hI); try first | (cases hI; done) | (simp only [INTS] at hI; try first | (exfalso; omega) | (have hT : True := hI; clear hT hI))))
        | ((first | apply W.ret2 | apply W.end2); (iterate 2 (try (simp (disch := omega) only [push_cast, simprocAttr, hS, hZ, hk, hk1, hk2, hp1] <;> rfl))))
      all_goals
        (have hset : row.set k (-1) = fillR h.rooms.length (k + 1) (-1) := by rw [hp0]; exact fillR_set hk
         (refine ⟨h.rooms.length - (k + 1), ?_, k + 1, row.set k (-1), rfl, hset, (by rw [List.length_set]; exact hp1), (by omega), ?_, ?_, ?_, ?_, ?_, ?_, ?_, ?_, ?_⟩; (omega); all_goals first | (simp (disch := omega) only [push_cast, simprocAttr, hS, hZ, hk, hk1, hk2, hp1] <;> first | rfl | omega) | omega))
    · have hk1 : ¬ ((k : Int) < (h.rooms.length : Int)) := by omega
      have hkn : k = h.rooms.length := by omega
      have hrow : row = List.replicate h.rooms.length (-1) := by rw [hp0, hkn, fillR_all]
      have hnd : n0.toNat < row.length := by omega
      repeat' first
        | apply AW.seq | apply AW.region | apply AW.ret | apply AW.block | apply AW.skip | apply AW.exit | apply AW.scope | apply AW.label | apply AWL.nil | apply D.nil
        | refine W.draw cx_mixed (by decide +kernel) ?_
        | ((first | (apply W.step cx_ok; decide) | (apply D.step cx_ok; decide; decide) | apply W.store cx_ok | apply AW.cond); (simp (disch := omega) only [push_cast, simprocAttr, hS, hZ, hk, hk1, hna, hnb, hnd] <;> rfl); all_goals try ((with_reducible intro hI); try first | (cases hI; done) | (simp only [INTS] at hI; try first | (exfalso; omega) | (have hT : True := hI; clear hT hI))))
        | ((first | (apply W.callv cx_ok; decide) | (apply D.callv cx_ok; decide; decide)); (iterate 2 (simp (disch := omega) only [push_cast, simprocAttr, hS, hZ, hk, hk1, hna, hnb, hnd] <;> rfl)); (with_reducible first | exact gates_ok h hfit.nw); try first | rfl | (simp (disch := omega) only [push_cast, simprocAttr, hS, hZ, hk, hk1, hna, hnb, hnd] <;> rfl))
        | ((first | apply W.ret2 | apply W.end2); (iterate 2 (try (simp (disch := omega) only [push_cast, simprocAttr, hS, hZ, hk, hk1, hna, hnb, hnd] <;> rfl))))
      refine AW.loop (fun n s => ∃ (k : Nat) (row : List Int) (ch : Bool), n = (if ch = true then k else 0) ∧ (row.length = h.rooms.length) ∧ (Lab.RowOK (depN h) h.rooms.length n0.toNat t row) ∧ (ch = true → lateM row < k ∧ lateF (depart h) (gates h) k row = late h n0.toNat t) ∧ (ch = false → row = late h n0.toNat t) ∧ 4 ≤ s.nx ∧ s.tm 3 = .ptr 0 0 0 1 ∧ s.tm 9 = .ref 3 0 h.rooms.length ∧ s.tm 11 = .lst ((gates h).map eGate) ∧ s.tm 12 = ab ch ∧ Pg.rowAt s.H (0) = some ({ k := 3, es := [eHouse h], ty := 26 }) ∧ Pg.rowAt s.H (3) = some ({ k := 1, es := row.map eInt, ty := 3 })) ((lateM (row.set n0.toNat t) + 1)) ⟨(lateM (row.set n0.toNat t) + 1), row.set n0.toNat t, true, rfl, (by rw [List.length_set]; exact hp1), (by rw [hrow]; exact Lab.rowOK_init (depN_ok hv) hnc (t := t) ⟨by omega, ht.2⟩), (fun _ => ⟨Nat.lt_succ_self _, by rw [hrow]; rfl⟩), (fun hx => by cases hx), ?_, ?_, ?_, ?_, ?_, ?_, ?_⟩ ?_
      iterate 7 (first | (simp (disch := omega) only [push_cast, simprocAttr, hS, hZ, hk, hk1, hna, hnb, hnd] <;> first | rfl | omega) | omega)
      rintro n2 s2 ⟨k2, row2, ch2, hn2, hp02, hp12, hp22, hp32, hnl2, hS2⟩
      have hZ2 : (0 : Nat) ≠ s2.nx ∧ s2.nx ≠ (0 : Nat) ∧ (3 : Nat) ≠ s2.nx ∧ s2.nx ≠ (3 : Nat) := by omega
      cases ch2 with
      | false =>
        repeat' first
          | apply AW.seq | apply AW.region | apply AW.ret | apply AW.block | apply AW.skip | apply AW.exit | apply AW.scope | apply AW.label | apply AWL.nil | apply D.nil
          | refine W.draw cx_mixed (by decide +kernel) ?_
          | ((first | (apply W.step cx_ok; decide) | (apply D.step cx_ok; decide; decide) | apply W.store cx_ok | apply AW.cond); (simp (disch := omega) only [push_cast, simprocAttr, hS2, hZ2, hp02] <;> rfl); all_goals try ((with_reducible intro hI); try first | (cases hI; done) | (simp only [INTS] at hI; try first | (exfalso; omega) | (have hT : True := hI; clear hT hI))))
          | ((first | apply W.ret2 | apply W.end2); (iterate 2 (try (simp (disch := omega) only [push_cast, simprocAttr, hS2, hZ2, hp02] <;> rfl))))
        all_goals (show _ = _; rw [hp32 rfl])
      | true =>
        obtain ⟨hm2, hF2⟩ := hp22 rfl
        repeat' first
          | apply AW.seq | apply AW.region | apply AW.ret | apply AW.block | apply AW.skip | apply AW.exit | apply AW.scope | apply AW.label | apply AWL.nil | apply D.nil
          | refine W.draw cx_mixed (by decide +kernel) ?_
          | ((first | (apply W.step cx_ok; decide) | (apply D.step cx_ok; decide; decide) | apply W.store cx_ok | apply AW.cond); (simp (disch := omega) only [push_cast, simprocAttr, hS2, hZ2] <;> rfl); all_goals try ((with_reducible intro hI); try first | (cases hI; done) | (simp only [INTS] at hI; try first | (exfalso; omega) | (have hT : True := hI; clear hT hI))))
          | ((first | apply W.ret2 | apply W.end2); (iterate 2 (try (simp (disch := omega) only [push_cast, simprocAttr, hS2, hZ2] <;> rfl))))
        refine AW.loop (fun n s => ∃ (j : Nat) (row : List Int) (ch : Bool) (rest : List Gate), n = rest.length ∧ ((gates h).drop j = rest) ∧ (row.length = h.rooms.length) ∧ (Lab.RowOK (depN h) h.rooms.length n0.toNat t row) ∧ (rest.foldl (lateStep (depart h)) (row, ch) = (gates h).foldl (lateStep (depart h)) (row2, false)) ∧ 4 ≤ s.nx ∧ s.tm 3 = .ptr 0 0 0 1 ∧ s.tm 9 = .ref 3 0 h.rooms.length ∧ s.tm 11 = .lst ((gates h).map eGate) ∧ s.tm 12 = ab ch ∧ s.tm 45 = .lst ((gates h).map eGate) ∧ s.tm 46 = ai (gates h).length ∧ s.tm 47 = ai j ∧ Pg.rowAt s.H (0) = some ({ k := 3, es := [eHouse h], ty := 26 }) ∧ Pg.rowAt s.H (3) = some ({ k := 1, es := row.map eInt, ty := 3 })) ((gates h).length) ⟨0, row2, false, _, rfl, rfl, hp02, hp12, rfl, ?_, ?_, ?_, ?_, ?_, ?_, ?_, ?_, ?_, ?_⟩ ?_
        iterate 10 (first | (simp (disch := omega) only [push_cast, simprocAttr, hS2, hZ2] <;> first | rfl | omega) | omega)
        rintro n3 s3 ⟨j3, row3, ch3, rest3, hn3, hp03, hp13, hp23, hp33, hnl3, hS3⟩
        have hZ3 : (0 : Nat) ≠ s3.nx ∧ s3.nx ≠ (0 : Nat) ∧ (3 : Nat) ≠ s3.nx ∧ s3.nx ≠ (3 : Nat) := by omega
        rcases rest3 with _ | ⟨x3, rest3⟩
        · have hk3 := drop_nil hp03
          repeat' first
            | apply AW.seq | apply AW.region | apply AW.ret | apply AW.block | apply AW.skip | apply AW.exit | apply AW.scope | apply AW.label | apply AWL.nil | apply D.nil
            | refine W.draw cx_mixed (by decide +kernel) ?_
            | ((first | (apply W.step cx_ok; decide) | (apply D.step cx_ok; decide; decide) | apply W.store cx_ok | apply AW.cond); (simp (disch := omega) only [push_cast, simprocAttr, hS3, hZ3, hk3] <;> rfl); all_goals try ((with_reducible intro hI); try first | (cases hI; done) | (simp only [INTS] at hI; try first | (exfalso; omega) | (have hT : True := hI; clear hT hI))))
            | ((first | apply W.ret2 | apply W.end2); (iterate 2 (try (simp (disch := omega) only [push_cast, simprocAttr, hS3, hZ3, hk3] <;> rfl))))
          all_goals
            (obtain ⟨i1, i2, i3, i4, i5⟩ := late_pass hv (gates h) row2 false (fun _ h => h) hp12
             have i4 := i4 rfl
             rw [← hp33] at i1 i4 i5
             simp only [List.foldl_nil] at i1 i4 i5
             have hk0 : k2 ≠ 0 := by omega
             obtain ⟨k', rfl⟩ : ∃ k', k2 = k' + 1 := ⟨k2 - 1, by omega⟩
             unfold lateF at hF2
             rw [← hp33] at hF2
             simp only [List.foldl_nil] at hF2
             have hmeas : (if ch3 = true then k' else 0) < n2 := by rw [hn2]; simp; split <;> omega
             (refine ⟨(if ch3 = true then k' else 0), ?_, k', row3, ch3, rfl, hp13, hp23, (fun hx => ⟨by have := i4 hx; omega, by simp only [hx, if_true] at hF2; exact hF2⟩), (fun hx => by simp only [hx, Bool.false_eq_true, if_false] at hF2; exact hF2), ?_, ?_, ?_, ?_, ?_, ?_, ?_⟩; (exact hmeas); all_goals first | (simp (disch := omega) only [push_cast, simprocAttr, hS3, hZ3] <;> first | rfl | omega) | omega))
        · obtain ⟨hk3, hg3, hd'3, hl'3, hm3, hx3⟩ := drop_cons hp03 eGate []
          have hgo := gate_ok hv hm3
          have g1 := hgo.from'.1
          have g2 := hgo.from'.2
          have g3 := hgo.to.1
          have g4 := hgo.to.2
          have g5 : x3.from'.toNat < row3.length := by omega
          have g6 : x3.to.toNat < row3.length := by omega
          have hb := hp23.In _ (List.mem_of_getElem? (getD_set' row3 x3.to.toNat 0 g6))
          have hb1 : row3.getD x3.to.toNat 0 ≤ 1073741823 := hb.2
          repeat' first
            | apply AW.seq | apply AW.region | apply AW.ret | apply AW.block | apply AW.skip | apply AW.exit | apply AW.scope | apply AW.label | apply AWL.nil | apply D.nil
            | refine W.draw cx_mixed (by decide +kernel) ?_
            | ((first | (apply W.step cx_ok; decide) | (apply D.step cx_ok; decide; decide) | apply W.store cx_ok | apply AW.cond); (simp (disch := omega) only [push_cast, simprocAttr, hS3, hZ3, hk3, hg3, g1, g2, g3, g4, g5, g6] <;> rfl); all_goals try ((with_reducible intro hI); try first | (cases hI; done) | (simp only [INTS] at hI; try first | (exfalso; omega) | (have hT : True := hI; clear hT hI))))
            | ((first | (apply W.callv cx_ok; decide) | (apply D.callv cx_ok; decide; decide)); (iterate 2 (simp (disch := omega) only [push_cast, simprocAttr, hS3, hZ3, hk3, hg3, g1, g2, g3, g4, g5, g6] <;> rfl)); (with_reducible first | exact depart_ok h x3 _ hv hgo (by omega) (by omega)); try first | rfl | (simp (disch := omega) only [push_cast, simprocAttr, hS3, hZ3, hk3, hg3, g1, g2, g3, g4, g5, g6] <;> rfl))
            | ((first | apply W.ret2 | apply W.end2); (iterate 2 (try (simp (disch := omega) only [push_cast, simprocAttr, hS3, hZ3, hk3, hg3, g1, g2, g3, g4, g5, g6] <;> rfl))))
          all_goals first
            | (have hq : lateStep (depart h) (row3, ch3) x3 = (row3, ch3) := by unfold lateStep; dsimp only; rw [if_pos (by assumption)]
               (refine ⟨rest3.length, ?_, j3 + 1, row3, ch3, rest3, rfl, hd'3, (by first | exact hp13 | (rw [List.length_set]; exact hp13)), (by have := late_step1 hv hm3 ch3 hp23; rw [hq] at this; exact this), (by rw [← hp33, List.foldl_cons, hq]), ?_, ?_, ?_, ?_, ?_, ?_, ?_, ?_, ?_, ?_⟩; ((simp only [List.length_cons] at *; omega)); all_goals first | (simp (disch := omega) only [push_cast, simprocAttr, hS3, hZ3, hg3, hk3, g1, g2, g3, g4, g5, g6] <;> first | rfl | omega) | omega))
            | (have hq : lateStep (depart h) (row3, ch3) x3 = (row3.set x3.from'.toNat (depart h x3 (row3.getD x3.to.toNat 0)), true) := by unfold lateStep; dsimp only; rw [if_neg (by omega), if_pos (by omega)]
               (refine ⟨rest3.length, ?_, j3 + 1, row3.set x3.from'.toNat (depart h x3 (row3.getD x3.to.toNat 0)), true, rest3, rfl, hd'3, (by first | exact hp13 | (rw [List.length_set]; exact hp13)), (by have := late_step1 hv hm3 ch3 hp23; rw [hq] at this; exact this), (by rw [← hp33, List.foldl_cons, hq]), ?_, ?_, ?_, ?_, ?_, ?_, ?_, ?_, ?_, ?_⟩; ((simp only [List.length_cons] at *; omega)); all_goals first | (simp (disch := omega) only [push_cast, simprocAttr, hS3, hZ3, hg3, hk3, g1, g2, g3, g4, g5, g6] <;> first | rfl | omega) | omega))
            | (have hq : lateStep (depart h) (row3, ch3) x3 = (row3, ch3) := by unfold lateStep; dsimp only; rw [if_neg (by omega), if_neg (by omega)]
               (refine ⟨rest3.length, ?_, j3 + 1, row3, ch3, rest3, rfl, hd'3, (by first | exact hp13 | (rw [List.length_set]; exact hp13)), (by have := late_step1 hv hm3 ch3 hp23; rw [hq] at this; exact this), (by rw [← hp33, List.foldl_cons, hq]), ?_, ?_, ?_, ?_, ?_, ?_, ?_, ?_, ?_, ?_⟩; ((simp only [List.length_cons] at *; omega)); all_goals first | (simp (disch := omega) only [push_cast, simprocAttr, hS3, hZ3, hg3, hk3, g1, g2, g3, g4, g5, g6] <;> first | rfl | omega) | omega))
  ·
    refine OKat.of_body (rs := [6, 7]) Tryz.func14 rfl (by decide +kernel) rfl (by simp [Tryz.ntmps14]) ?_
    simp only [Tryz.ntmps14]
    repeat' first
      | apply AW.seq | apply AW.region | apply AW.ret | apply AW.block | apply AW.skip | apply AW.exit | apply AW.scope | apply AW.label | apply AWL.nil | apply D.nil
      | refine W.draw cx_mixed (by decide +kernel) ?_
      | ((first | (apply W.step cx_ok; decide) | (apply D.step cx_ok; decide; decide) | apply W.store cx_ok | apply AW.cond); (simp (disch := omega) only [push_cast, simprocAttr, he, askedE_one] <;> rfl); all_goals try ((with_reducible intro hI); try first | (cases hI; done) | (simp only [INTS] at hI; try first | (exfalso; omega) | (have hT : True := hI; clear hT hI))))
      | ((first | (apply W.callv cx_ok; decide) | (apply D.callv cx_ok; decide; decide)); (iterate 2 (simp (disch := omega) only [push_cast, simprocAttr, he, askedE_one] <;> rfl)); (with_reducible first | exact askedOne_ok _ _ _ hfit); try first | rfl | (simp (disch := omega) only [push_cast, simprocAttr, he, askedE_one] <;> rfl))
      | ((first | apply W.ret2 | apply W.end2); (iterate 2 (try (simp (disch := omega) only [push_cast, simprocAttr, he, askedE_one] <;> rfl))))
    all_goals (show _ = _; unfold latestH; rw [if_pos he]; rfl)
end Go.Proofs.Hz
