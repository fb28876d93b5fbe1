/-
  Contracts of functions, proved by going through their code. No conditions.
-/
import Derived.Test.YtofdhddbfjfkcaaDoorHf
import Derived.Test.YtofdhddbfjfkcaaDoorVi
import Derived.Test.YtofdhddbfjfkcaaDoorVm
set_option maxHeartbeats 8000000
set_option linter.unusedSimpArgs false
set_option linter.unusedVariables false
set_option maxRecDepth 10000
namespace Go.Proofs.Hs
open Go Go.Pg Go.Proofs

theorem rowAt_afterH (H : Nat → Option AO) (ids : List Nat) (r : AV) (j : Nat) : Pg.rowAt (afterH H ids r) j = if flatA r = true then Pg.rowAt H j else if j ∈ ids then (Pg.rowAt H j).map (fun r => { r with fro := true }) else Pg.rowAt H j := by
  unfold afterH
  split
  · rfl
  · have := rowAt_frzG H ids j
    unfold frz' at this
    exact this
theorem chkR_validT {h : House} (hc : (Check h).1 = 0) : chkR 0 [] h.rooms = none := by
  unfold Check at hc
  split at hc
  · cases hc
  · split at hc
    · cases hc
    · unfold chk1 at hc
      cases hq : chkR 0 [] h.rooms with
      | none => rfl
      | some e => rw [hq] at hc; exact absurd hc (chkR_ne0 _ _ _ _ hq)
theorem chkW_all (nr nd : Nat) : ∀ (l : List Way) (i : Nat), (∀ w ∈ l, w.OK nr nd) → chkW nr nd i l = none
  | [], _, _ => rfl
  | w :: l, i, h => by
    unfold chkW
    rw [if_pos (h w (by simp)), chkW_all nr nd l (i + 1) (fun x hx => h x (by simp [hx]))]
theorem plain_Check {h : House} (hc : (Check h).1 = 0) : (Check (plainH h)).1 = 0 := by
  have hpv := plain_V (Check_V hc)
  have hv := Check_V hc
  have hcr := chkR_validT hc
  unfold Check
  rw [if_neg (by have := hv.rooms; show ¬ h.rooms.length = 0; omega), if_neg (by have := hv.rooms; have := hpv.nd; have := hpv.nw; show ¬ (24 < h.rooms.length ∨ 16 < (plainH h).doors.length ∨ 60 < (plainH h).ways.length); omega)]
  unfold chk1
  have h1 : chkR 0 [] (plainH h).rooms = none := hcr
  rw [h1]
  unfold chk2
  have h2 : chkD 0 (plainH h).doors = none := rfl
  rw [h2]
  unfold chk3
  rw [chkW_all _ _ _ _ hpv.ways]
theorem dist_lab {h : House} (hv : h.V) {a b : Nat} (ha : a < h.rooms.length) (hb : b < h.rooms.length) : ∃ d : Int, (arrN (plainH h)).lab (arrR (plainH h) a 0) b = d ∧ (0 ≤ d ∧ d ≤ 1073741824) ∧ (distH h a).getD b 0 = noneR d := by
  obtain ⟨l0, h0⟩ := arrR_is (plain_V hv) (a := a) ha (t := 0) (by omega)
  have l0' : (arrR (plainH h) a 0).length = h.rooms.length := l0
  refine ⟨_, rfl, h0.closed.In b, ?_⟩
  rw [dist_is hv ha]
  unfold rowR
  rw [List.getD_eq_getElem?_getD, List.getElem?_map, getD_set' _ b 0 (by omega), getD_lab (by omega)]; rfl
theorem least_facts {h : House} (hc : (Check h).1 = 0) {X Y Z t : Int} (hX : 0 ≤ X ∧ X < (h.rooms.length : Int)) (hY : 0 ≤ Y ∧ Y < (h.rooms.length : Int)) (hZ : 0 ≤ Z ∧ Z < (h.rooms.length : Int)) (ht : 0 ≤ t ∧ t ≤ 1073741823) :
    ∃ v1 e1 v2 e2 v3 e3, leastH h X Y = (v1, e1) ∧ leastH h Y Z = (v2, e2) ∧ leastH h X Z = (v3, e3) ∧ (0 ≤ v1 ∧ v1 ≤ 86400) ∧ (0 ≤ v2 ∧ v2 ≤ 86400) ∧ (0 ≤ v3 ∧ v3 ≤ 86400) ∧ (e1 = 0 ∨ e1 = 5) ∧ (e2 = 0 ∨ e2 = 5) ∧ (e3 = 0 ∨ e3 = 5) ∧
      (e1 = 0 → e2 = 0 → e3 = 0 ∧ v3 ≤ v1 + v2) ∧ (arrR (plainH h) X.toNat t).getD Z.toNat 0 = (if e3 = 0 ∧ t + v3 ≤ 1073741823 then t + v3 else 1073741824) ∧ (arrR (plainH h) X.toNat t).getD Z.toNat 0 ≤ (arrR h X.toNat t).getD Z.toNat 0 := by
  have hv := Check_V hc
  have hrl := hv.rooms
  have hask : ∀ a b : Int, 0 ≤ a ∧ a < (h.rooms.length : Int) → 0 ≤ b ∧ b < (h.rooms.length : Int) → askedE h [a, b] [] = 0 := fun a b ha hb => by
    unfold askedE
    have h1 : ∀ x : Int, 0 ≤ x ∧ x < (h.rooms.length : Int) → roomB h x = true := fun x hx => by simp only [roomB, Bool.and_eq_true, decide_eq_true_eq]; exact hx
    simp [hc, h1 a ha, h1 b hb]
  have key : ∀ a b : Int, 0 ≤ a ∧ a < (h.rooms.length : Int) → 0 ≤ b ∧ b < (h.rooms.length : Int) → ∃ v e, leastH h a b = (v, e) ∧ (0 ≤ v ∧ v ≤ 86400) ∧ ((e = 0 ∧ (arrN (plainH h)).lab (arrR (plainH h) a.toNat 0) b.toNat = v) ∨ (e = 5 ∧ (arrN (plainH h)).lab (arrR (plainH h) a.toNat 0) b.toNat = 1073741824)) := fun a b ha hb => by
    obtain ⟨d, d1, d2, d3⟩ := dist_lab hv (a := a.toNat) (b := b.toNat) (by omega) (by omega)
    have hs := (dist_sim hv (a := a.toNat) (by omega)).2.at' hrl.2 (i := b.toNat) (by omega)
    unfold leastH
    rw [if_neg (by simp [hask a b ha hb]), d1]
    rw [d3] at hs ⊢
    unfold noneR at hs ⊢
    by_cases hd : d = 1073741824
    · rw [if_pos hd, if_pos (by omega)]; exact ⟨0, 5, rfl, by omega, .inr ⟨rfl, hd⟩⟩
    · rw [if_neg hd] at hs ⊢
      rw [if_neg (by omega)]; exact ⟨d, 0, rfl, by omega, .inl ⟨rfl, rfl⟩⟩
  obtain ⟨v1, e1, p1, p2, p3⟩ := key X Y hX hY
  obtain ⟨v2, e2, q1, q2, q3⟩ := key Y Z hY hZ
  obtain ⟨v3, e3, r1, r2, r3⟩ := key X Z hX hZ
  obtain ⟨l1, _⟩ := arrR_is (plain_V hv) (a := X.toNat) (show X.toNat < h.rooms.length by omega) (t := t) (by omega)
  obtain ⟨l2, _⟩ := arrR_is hv (a := X.toNat) (by omega) (t := t) (by omega)
  have l1' : (arrR (plainH h) X.toNat t).length = h.rooms.length := l1
  have htri := plain_tri hv (a := X.toNat) (b := Y.toNat) (by omega) (by omega) Z.toNat
  have hsh := plain_shift hv (a := X.toNat) (by omega) (t := t) (by omega) Z.toNat
  have hle := plain_le hv (a := X.toNat) (by omega) (t := t) (by omega) Z.toNat
  rw [getD_lab (N := arrN (plainH h)) (row := arrR (plainH h) X.toNat t) (by omega)] at hsh
  rw [getD_lab (N := arrN (plainH h)) (row := arrR (plainH h) X.toNat t) (by omega), getD_lab (N := arrN h) (row := arrR h X.toNat t) (by omega)] at hle
  refine ⟨v1, e1, v2, e2, v3, e3, p1, q1, r1, p2, q2, r2, by omega, by omega, by omega, fun h1 h2 => by omega, ?_, hle⟩
  rw [hsh]
  split <;> split <;> omega
theorem law13_ok (h : House) (a b c t : Int) (hn : ∀ r ∈ h.rooms, r.name.size ≤ 9223372036854775807) : OKv cx 13 [.agg (eHouse h), ai a, ai b, ai c, ai t] (ab true) := by
  by_cases hr : (few h && decide ((Check h).1 = 0)) = true
  ·
    by_cases hta : (decide (0 ≤ t) && decide (t ≤ 1073741823)) = true
    ·
      obtain ⟨hf, hc⟩ : few h = true ∧ (Check h).1 = 0 := by simpa using hr
      have hfit := few_fit hf hn
      have hv := Check_V hc
      have hrl := hv.rooms
      have htab : 0 ≤ t ∧ t ≤ 1073741823 := by simpa using hta
      obtain ⟨X, hX⟩ : ∃ x, someN a h.rooms.length = x := ⟨_, rfl⟩
      have hXb := someN_lt a (k := (h.rooms.length : Int)) (by omega)
      rw [hX] at hXb
      obtain ⟨Y, hY⟩ : ∃ x, someN b h.rooms.length = x := ⟨_, rfl⟩
      have hYb := someN_lt b (k := (h.rooms.length : Int)) (by omega)
      rw [hY] at hYb
      obtain ⟨Z, hZ9⟩ : ∃ x, someN c h.rooms.length = x := ⟨_, rfl⟩
      have hZb := someN_lt c (k := (h.rooms.length : Int)) (by omega)
      rw [hZ9] at hZb
      have hwn := hv.nw
      have hpf := plain_fit hfit
      have hpv := plain_V hv
      have hpc := plain_Check hc
      obtain ⟨v1, e1, v2, e2, v3, e3, q1, q2, q3, vb1, vb2, vb3, eb1, eb2, eb3, htr, hfr, hfe⟩ := least_facts hc hXb hYb hZb htab
      have hr1 : roomE h X t = 0 := by unfold roomE; rw [if_neg (by simp [hc]), if_neg (by omega)]
      have hr2 : roomE (plainH h) X t = 0 := by unfold roomE; rw [if_neg (by simp [hpc]), if_neg (by show ¬ (¬ (0 ≤ X ∧ X < (h.rooms.length : Int)) ∨ ¬ (0 ≤ t ∧ t ≤ 1073741823)); omega)]
      obtain ⟨E, hE⟩ : ∃ x, arrR h X.toNat t = x := ⟨_, rfl⟩
      obtain ⟨G, hG⟩ : ∃ x, arrR (plainH h) X.toNat t = x := ⟨_, rfl⟩
      have hEl : E.length = h.rooms.length := by rw [← hE]; exact (arrR_is hv (a := X.toNat) (by omega) (t := t) (by omega)).1
      have hGl : G.length = h.rooms.length := by rw [← hG]; exact (arrR_is hpv (a := X.toNat) (show X.toNat < h.rooms.length by omega) (t := t) (by omega)).1
      have q4 : earliestH h X t = (E, 0) := by rw [← hE, ← arrH_eq hv hXb htab]; exact if_neg (by simp [hr1])
      have q5 : earliestH (plainH h) X t = (G, 0) := by rw [← hG, ← arrH_eq hpv hXb htab]; exact if_neg (by simp [hr2])
      rw [hE, hG] at hfe
      rw [hG] at hfr
      have b1 := hZb.1
      have b2 := hZb.2
      have b3 : Z.toNat < h.rooms.length := by omega
      refine OKat.of_body (rs := [10]) Tryd.func13 rfl (by decide +kernel) rfl (by simp [Tryd.ntmps13]) ?_
      simp only [Tryd.ntmps13]
      repeat' first
        | apply AW.seq | apply AW.region | apply AW.ret | apply AW.block | apply AW.skip | apply AW.exit | apply AW.scope | apply AW.label | apply AWL.nil
        | ((first | (apply W.step cx_ok; decide) | apply W.store cx_ok | (apply W.gS; rfl; decide) | apply AW.cond); (simp (disch := omega) only [push_cast, simprocAttr, hr, hta, hX, hY, hZ9, q1, q2, q3, q4, hEl] <;> rfl); all_goals try ((with_reducible intro hI); try first | (cases hI; done) | (simp only [INTS, not_true_eq_false] at hI; try first | (exfalso; omega) | (have hT : True := hI; clear hT hI))))
        | ((apply W.gU; rfl; decide); (simp (disch := omega) only [push_cast, simprocAttr, hr, hta, hX, hY, hZ9, q1, q2, q3, q4, hEl] <;> rfl))
        | ((apply W.callv cx_ok; decide); (iterate 2 (simp (disch := omega) only [push_cast, simprocAttr, hr, hta, hX, hY, hZ9, q1, q2, q3, q4, hEl] <;> rfl)); (with_reducible first | exact right_ok _ hn | exact sanity_ok | exact Time_ok _ | exact some_ok _ _ (by omega) | exact Least_ok _ _ _ hfit | exact Earliest_ok _ _ _ hfit | exact Earliest_ok (plainH h) _ _ hpf); try first | rfl | (simp (disch := omega) only [push_cast, simprocAttr, hr, hta, hX, hY, hZ9, q1, q2, q3, q4, hEl] <;> rfl))
        | ((first | apply W.ret1 | apply W.end1); (iterate 2 (try (simp (disch := omega) only [push_cast, simprocAttr, hr, hta, hX, hY, hZ9, q1, q2, q3, q4, hEl] <;> rfl))))
      all_goals try (exfalso; omega)
      all_goals
        refine AW.adoptCell 1 0 2 5 76 (r := { k := 3, es := [[.lst (h.rooms.map eRoom), .v (.slice none 0 0), .v (.slice none 0 0)]], ty := 26 }) (by simp (disch := omega) only [push_cast, simprocAttr, hr, hta, hX, hY, hZ9, q1, q2, q3, q4]) (by rfl) ?_
        refine AW.loop (fun n s => ∃ (k A B : Nat) (ow : List Way), n = h.ways.length - k ∧ (ow = (h.ways.take k).map dropW) ∧ (ow.length = k) ∧ (k ≤ h.ways.length) ∧ (1 ≤ A ∧ A < s.nx ∧ 1 ≤ B ∧ B < s.nx ∧ A ≠ B) ∧ 1 ≤ s.nx ∧ s.tm 4 = ai t ∧ s.tm 5 = .ptr 0 0 0 1 ∧ s.tm 11 = ai X ∧ s.tm 12 = ai Y ∧ s.tm 13 = ai Z ∧ s.tm 18 = ai v3 ∧ s.tm 19 = ai e3 ∧ s.tm 20 = lInt E ∧ s.tm 21 = ai 0 ∧ s.tm 22 = .ptr A 0 0 1 ∧ s.tm 23 = ai k ∧ Pg.rowAt s.H (0) = some ({ k := 3, es := [eHouse h], ty := 26 }) ∧ Pg.rowAt s.H (A) = some ({ k := 3, es := [[.lst (h.rooms.map eRoom), .v (.slice none 0 0), .ref B 0 k]], ty := 26 }) ∧ Pg.rowAt s.H (B) = some ({ k := 5, es := ow.map eWay, ty := 76, lo := k })) (h.ways.length) ⟨0, 1, 2, [], rfl, rfl, rfl, (Nat.zero_le _), (by (try simp (disch := omega) only [push_cast, simprocAttr, hr, hta, hX, hY, hZ9, q1, q2, q3, q4]) <;> omega), ?_, ?_, ?_, ?_, ?_, ?_, ?_, ?_, ?_, ?_, ?_, ?_, ?_, ?_, ?_⟩ ?_
        iterate 15 (first | (simp (disch := omega) only [push_cast, simprocAttr, hr, hta, hX, hY, hZ9, q1, q2, q3, q4] <;> first | rfl | omega) | omega)
        rintro n s ⟨k, A, B, ow, hn, hp0, hp1, hp2, hp3, hnl, hS⟩
        have hZ : (0 : Nat) ≠ s.nx ∧ s.nx ≠ (0 : Nat) ∧ (A : Nat) ≠ s.nx ∧ s.nx ≠ (A : Nat) ∧ (B : Nat) ≠ s.nx ∧ s.nx ≠ (B : Nat) := by omega
        obtain ⟨p1, p2, p3, p4, p5⟩ := hp3
        have d1 : A ≠ B := p5
        have d2 : B ≠ A := fun e => p5 e.symm
        have d3 : (0 : Nat) ≠ A := by omega
        have d4 : A ≠ (0 : Nat) := by omega
        have d5 : (0 : Nat) ≠ B := by omega
        have d6 : B ≠ (0 : Nat) := by omega
        have hz1 : A ≠ s.nx + 1 := by omega
        have hz2 : B ≠ s.nx + 1 := by omega
        have hz3 : s.nx + 1 ≠ A := by omega
        have hz4 : s.nx + 1 ≠ B := by omega
        have d7 : A < s.nx + 1 := by omega
        have d8 : B < s.nx + 1 := by omega
        have d9 : (0 : Nat) ≠ s.nx + 1 := by omega
        by_cases hk : k < h.ways.length
        · have hk1 : (k : Int) < (h.ways.length : Int) := by omega
          obtain ⟨w, hw⟩ : ∃ w, h.ways[k]? = some w := ⟨_, List.getElem?_eq_getElem hk⟩
          have hgw : (h.ways.map eWay).getD k [] = eWay w := by rw [List.getD_eq_getElem?_getD, List.getElem?_map, hw]; rfl
          have hdd : ow ++ [dropW w] = (h.ways.take (k + 1)).map dropW := by rw [List.take_add_one, hw, List.map_append, ← hp0]; rfl
          repeat' first
            | apply AW.seq | apply AW.region | apply AW.ret | apply AW.block | apply AW.skip | apply AW.exit | apply AW.scope | apply AW.label | apply AWL.nil
            | ((first | (apply W.step cx_ok; decide) | apply W.store cx_ok | (apply W.gS; rfl; decide) | apply AW.cond); (simp (disch := omega) only [push_cast, simprocAttr, hS, hZ, hk1, hgw, hp1, d1, d2, d3, d4, d5, d6, d7, d8, d9, hz1, hz2, hz3, hz4] <;> rfl); all_goals try ((with_reducible intro hI); try first | (cases hI; done) | (simp only [INTS, not_true_eq_false] at hI; try first | (exfalso; omega) | (have hT : True := hI; clear hT hI))))
            | ((apply W.gU; rfl; decide); (simp (disch := omega) only [push_cast, simprocAttr, hS, hZ, hk1, hgw, hp1, d1, d2, d3, d4, d5, d6, d7, d8, d9, hz1, hz2, hz3, hz4] <;> rfl))
            | (apply W.append cx_ok; decide; rfl; rfl; rfl; decide; (iterate 3 (simp (disch := omega) only [push_cast, simprocAttr, hS, hZ, hk1, hgw, hp1, d1, d2, d3, d4, d5, d6, d7, d8, d9, hz1, hz2, hz3, hz4] <;> rfl)); simp; (rfl); ((try dsimp only); (try simp only [List.length_map, List.length_append, List.length_cons, List.length_nil]); omega); ((try dsimp only); (try simp only [List.length_map, List.length_append, List.length_cons, List.length_nil]); omega))
            | ((first | apply W.ret1 | apply W.end1); (iterate 2 (try (simp (disch := omega) only [push_cast, simprocAttr, hS, hZ, hk1, hgw, hp1, d1, d2, d3, d4, d5, d6, d7, d8, d9, hz1, hz2, hz3, hz4] <;> rfl))))
          all_goals
            (refine ⟨h.ways.length - (k + 1), ?_, k + 1, A, B, ow ++ [dropW w], rfl, hdd, (by simp [hp1]), (by omega), (by (try simp (disch := omega) only [push_cast, simprocAttr, hS, hZ, hk1, hgw, hp1, d1, d2, d3, d4, d5, d6, d7, d8, d9, hz1, hz2, hz3, hz4]) <;> omega), ?_, ?_, ?_, ?_, ?_, ?_, ?_, ?_, ?_, ?_, ?_, ?_, ?_, ?_, ?_⟩; (omega); all_goals first | (simp (disch := omega) only [push_cast, simprocAttr, hS, hZ, hk1, hgw, hp1, dropW, d1, d2, d3, d4, d5, d6, d7, d8, d9, hz1, hz2, hz3, hz4] <;> first | rfl | omega) | omega)
        · have hk1 : ¬ ((k : Int) < (h.ways.length : Int)) := by omega
          have hkn : k = h.ways.length := by omega
          have hfin : ow = h.ways.map dropW := by rw [hp0, hkn, List.take_length]
          have hEp : OKv cx 27 [.agg [.lst (h.rooms.map eRoom), .lst [], .lst (ow.map eWay)], ai X, ai t] (.tup [lInt G, ai 0]) := by
            have h9 := Earliest_ok (plainH h) X t hpf
            rw [q5] at h9
            rw [hfin]; exact h9
          have hfl : flatA (.tup [.lst (G.map eInt), ai 0]) = false := rfl
          by_cases z1 : e3 = 0
          · by_cases z2 : t + v3 ≤ 1073741823
            · have g1 : G.getD Z.toNat 0 = t + v3 := by rw [hfr, if_pos ⟨z1, z2⟩]
              have g2 : t + v3 ≤ E.getD Z.toNat 0 := by rw [← g1]; exact hfe
              repeat' first
                | apply AW.seq | apply AW.region | apply AW.ret | apply AW.block | apply AW.skip | apply AW.exit | apply AW.scope | apply AW.label | apply AWL.nil
                | ((first | (apply W.step cx_ok; decide) | apply W.store cx_ok | (apply W.gS; rfl; decide) | apply AW.cond); (simp (disch := omega) only [push_cast, simprocAttr, hS, hZ, hk1, hp1, hEl, hGl, b1, b2, b3, z1, g1, g2, take_map_all, hfl, rowAt_afterH, St.back, idsL, idsA, idsLL, List.cons_append, List.nil_append, d1, d2, d3, d4, d5, d6, d7, d8, d9, hz1, hz2, hz3, hz4, z2] <;> rfl); all_goals try ((with_reducible intro hI); try first | (cases hI; done) | (simp only [INTS, not_true_eq_false] at hI; try first | (exfalso; omega) | (have hT : True := hI; clear hT hI))))
                | ((apply W.gU; rfl; decide); (simp (disch := omega) only [push_cast, simprocAttr, hS, hZ, hk1, hp1, hEl, hGl, b1, b2, b3, z1, g1, g2, take_map_all, hfl, rowAt_afterH, St.back, idsL, idsA, idsLL, List.cons_append, List.nil_append, d1, d2, d3, d4, d5, d6, d7, d8, d9, hz1, hz2, hz3, hz4, z2] <;> rfl))
                | ((apply W.callv cx_ok; decide); (iterate 2 (simp (disch := omega) only [push_cast, simprocAttr, hS, hZ, hk1, hp1, hEl, hGl, b1, b2, b3, z1, g1, g2, take_map_all, hfl, rowAt_afterH, St.back, idsL, idsA, idsLL, List.cons_append, List.nil_append, d1, d2, d3, d4, d5, d6, d7, d8, d9, hz1, hz2, hz3, hz4, z2] <;> rfl)); (with_reducible first | exact sanity_ok | exact hEp); try first | rfl | (simp (disch := omega) only [push_cast, simprocAttr, hS, hZ, hk1, hp1, hEl, hGl, b1, b2, b3, z1, g1, g2, take_map_all, hfl, rowAt_afterH, St.back, idsL, idsA, idsLL, List.cons_append, List.nil_append, d1, d2, d3, d4, d5, d6, d7, d8, d9, hz1, hz2, hz3, hz4, z2] <;> rfl))
                | ((first | apply W.ret1 | apply W.end1); (iterate 2 (try (simp (disch := omega) only [push_cast, simprocAttr, hS, hZ, hk1, hp1, hEl, hGl, b1, b2, b3, z1, g1, g2, take_map_all, hfl, rowAt_afterH, St.back, idsL, idsA, idsLL, List.cons_append, List.nil_append, d1, d2, d3, d4, d5, d6, d7, d8, d9, hz1, hz2, hz3, hz4, z2] <;> rfl))))
              all_goals (show _ = _; first | rfl | (simp_all; done))
            · have g1 : G.getD Z.toNat 0 = 1073741824 := by rw [hfr, if_neg (fun hh => z2 hh.2)]
              have g2 : 1073741824 ≤ E.getD Z.toNat 0 := by rw [← g1]; exact hfe
              repeat' first
                | apply AW.seq | apply AW.region | apply AW.ret | apply AW.block | apply AW.skip | apply AW.exit | apply AW.scope | apply AW.label | apply AWL.nil
                | ((first | (apply W.step cx_ok; decide) | apply W.store cx_ok | (apply W.gS; rfl; decide) | apply AW.cond); (simp (disch := omega) only [push_cast, simprocAttr, hS, hZ, hk1, hp1, hEl, hGl, b1, b2, b3, z1, g1, g2, take_map_all, hfl, rowAt_afterH, St.back, idsL, idsA, idsLL, List.cons_append, List.nil_append, d1, d2, d3, d4, d5, d6, d7, d8, d9, hz1, hz2, hz3, hz4, z2] <;> rfl); all_goals try ((with_reducible intro hI); try first | (cases hI; done) | (simp only [INTS, not_true_eq_false] at hI; try first | (exfalso; omega) | (have hT : True := hI; clear hT hI))))
                | ((apply W.gU; rfl; decide); (simp (disch := omega) only [push_cast, simprocAttr, hS, hZ, hk1, hp1, hEl, hGl, b1, b2, b3, z1, g1, g2, take_map_all, hfl, rowAt_afterH, St.back, idsL, idsA, idsLL, List.cons_append, List.nil_append, d1, d2, d3, d4, d5, d6, d7, d8, d9, hz1, hz2, hz3, hz4, z2] <;> rfl))
                | ((apply W.callv cx_ok; decide); (iterate 2 (simp (disch := omega) only [push_cast, simprocAttr, hS, hZ, hk1, hp1, hEl, hGl, b1, b2, b3, z1, g1, g2, take_map_all, hfl, rowAt_afterH, St.back, idsL, idsA, idsLL, List.cons_append, List.nil_append, d1, d2, d3, d4, d5, d6, d7, d8, d9, hz1, hz2, hz3, hz4, z2] <;> rfl)); (with_reducible first | exact sanity_ok | exact hEp); try first | rfl | (simp (disch := omega) only [push_cast, simprocAttr, hS, hZ, hk1, hp1, hEl, hGl, b1, b2, b3, z1, g1, g2, take_map_all, hfl, rowAt_afterH, St.back, idsL, idsA, idsLL, List.cons_append, List.nil_append, d1, d2, d3, d4, d5, d6, d7, d8, d9, hz1, hz2, hz3, hz4, z2] <;> rfl))
                | ((first | apply W.ret1 | apply W.end1); (iterate 2 (try (simp (disch := omega) only [push_cast, simprocAttr, hS, hZ, hk1, hp1, hEl, hGl, b1, b2, b3, z1, g1, g2, take_map_all, hfl, rowAt_afterH, St.back, idsL, idsA, idsLL, List.cons_append, List.nil_append, d1, d2, d3, d4, d5, d6, d7, d8, d9, hz1, hz2, hz3, hz4, z2] <;> rfl))))
              all_goals (show _ = _; first | rfl | (simp_all; done))
          · have g1 : G.getD Z.toNat 0 = 1073741824 := by rw [hfr, if_neg (fun hh => z1 hh.1)]
            have g2 : 1073741824 ≤ E.getD Z.toNat 0 := by rw [← g1]; exact hfe
            repeat' first
              | apply AW.seq | apply AW.region | apply AW.ret | apply AW.block | apply AW.skip | apply AW.exit | apply AW.scope | apply AW.label | apply AWL.nil
              | ((first | (apply W.step cx_ok; decide) | apply W.store cx_ok | (apply W.gS; rfl; decide) | apply AW.cond); (simp (disch := omega) only [push_cast, simprocAttr, hS, hZ, hk1, hp1, hEl, hGl, b1, b2, b3, z1, g1, g2, take_map_all, hfl, rowAt_afterH, St.back, idsL, idsA, idsLL, List.cons_append, List.nil_append, d1, d2, d3, d4, d5, d6, d7, d8, d9, hz1, hz2, hz3, hz4] <;> rfl); all_goals try ((with_reducible intro hI); try first | (cases hI; done) | (simp only [INTS, not_true_eq_false] at hI; try first | (exfalso; omega) | (have hT : True := hI; clear hT hI))))
              | ((apply W.gU; rfl; decide); (simp (disch := omega) only [push_cast, simprocAttr, hS, hZ, hk1, hp1, hEl, hGl, b1, b2, b3, z1, g1, g2, take_map_all, hfl, rowAt_afterH, St.back, idsL, idsA, idsLL, List.cons_append, List.nil_append, d1, d2, d3, d4, d5, d6, d7, d8, d9, hz1, hz2, hz3, hz4] <;> rfl))
              | ((apply W.callv cx_ok; decide); (iterate 2 (simp (disch := omega) only [push_cast, simprocAttr, hS, hZ, hk1, hp1, hEl, hGl, b1, b2, b3, z1, g1, g2, take_map_all, hfl, rowAt_afterH, St.back, idsL, idsA, idsLL, List.cons_append, List.nil_append, d1, d2, d3, d4, d5, d6, d7, d8, d9, hz1, hz2, hz3, hz4] <;> rfl)); (with_reducible first | exact sanity_ok | exact hEp); try first | rfl | (simp (disch := omega) only [push_cast, simprocAttr, hS, hZ, hk1, hp1, hEl, hGl, b1, b2, b3, z1, g1, g2, take_map_all, hfl, rowAt_afterH, St.back, idsL, idsA, idsLL, List.cons_append, List.nil_append, d1, d2, d3, d4, d5, d6, d7, d8, d9, hz1, hz2, hz3, hz4] <;> rfl))
              | ((first | apply W.ret1 | apply W.end1); (iterate 2 (try (simp (disch := omega) only [push_cast, simprocAttr, hS, hZ, hk1, hp1, hEl, hGl, b1, b2, b3, z1, g1, g2, take_map_all, hfl, rowAt_afterH, St.back, idsL, idsA, idsLL, List.cons_append, List.nil_append, d1, d2, d3, d4, d5, d6, d7, d8, d9, hz1, hz2, hz3, hz4] <;> rfl))))
            all_goals (show _ = _; first | rfl | (simp_all; done))
    ·
      have hta' : (decide (0 ≤ t) && decide (t ≤ 1073741823)) = false := by simpa using hta
      refine OKat.of_body (rs := [10]) Tryd.func13 rfl (by decide +kernel) rfl (by simp [Tryd.ntmps13]) ?_
      simp only [Tryd.ntmps13]
      repeat' first
        | apply AW.seq | apply AW.region | apply AW.ret | apply AW.block | apply AW.skip | apply AW.exit | apply AW.scope | apply AW.label | apply AWL.nil
        | ((first | (apply W.step cx_ok; decide) | apply W.store cx_ok | (apply W.gS; rfl; decide) | apply AW.cond); (simp (disch := omega) only [push_cast, simprocAttr, hr, hta'] <;> rfl); all_goals try ((with_reducible intro hI); try first | (cases hI; done) | (simp only [INTS, not_true_eq_false] at hI; try first | (exfalso; omega) | (have hT : True := hI; clear hT hI))))
        | ((apply W.gU; rfl; decide); (simp (disch := omega) only [push_cast, simprocAttr, hr, hta'] <;> rfl))
        | ((apply W.callv cx_ok; decide); (iterate 2 (simp (disch := omega) only [push_cast, simprocAttr, hr, hta'] <;> rfl)); (with_reducible first | exact right_ok _ hn | exact sanity_ok | exact Time_ok _); try first | rfl | (simp (disch := omega) only [push_cast, simprocAttr, hr, hta'] <;> rfl))
        | ((first | apply W.ret1 | apply W.end1); (iterate 2 (try (simp (disch := omega) only [push_cast, simprocAttr, hr, hta'] <;> rfl))))
      all_goals (show _ = _; first | rfl | (simp_all; done))
  ·
    have hr' : (few h && decide ((Check h).1 = 0)) = false := by simpa using hr
    refine OKat.of_body (rs := [10]) Tryd.func13 rfl (by decide +kernel) rfl (by simp [Tryd.ntmps13]) ?_
    simp only [Tryd.ntmps13]
    repeat' first
      | apply AW.seq | apply AW.region | apply AW.ret | apply AW.block | apply AW.skip | apply AW.exit | apply AW.scope | apply AW.label | apply AWL.nil
      | ((first | (apply W.step cx_ok; decide) | apply W.store cx_ok | (apply W.gS; rfl; decide) | apply AW.cond); (simp (disch := omega) only [push_cast, simprocAttr, hr'] <;> rfl); all_goals try ((with_reducible intro hI); try first | (cases hI; done) | (simp only [INTS, not_true_eq_false] at hI; try first | (exfalso; omega) | (have hT : True := hI; clear hT hI))))
      | ((apply W.gU; rfl; decide); (simp (disch := omega) only [push_cast, simprocAttr, hr'] <;> rfl))
      | ((apply W.callv cx_ok; decide); (iterate 2 (simp (disch := omega) only [push_cast, simprocAttr, hr'] <;> rfl)); (with_reducible first | exact right_ok _ hn | exact sanity_ok | exact Time_ok _); try first | rfl | (simp (disch := omega) only [push_cast, simprocAttr, hr'] <;> rfl))
      | ((first | apply W.ret1 | apply W.end1); (iterate 2 (try (simp (disch := omega) only [push_cast, simprocAttr, hr'] <;> rfl))))
    all_goals (show _ = _; first | rfl | (simp_all; done))

end Go.Proofs.Hs
