/-
  Contracts of functions, proved by going through their code. No conditions.
-/
import Derived.Test.YtdlflcambboojaaVaa
import Derived.Test.YtdlflcambboojaaVaz
import Derived.Test.YtdlflcambboojaaVba
set_option linter.unusedVariables false
set_option linter.unusedSimpArgs false
set_option maxHeartbeats 8000000
set_option maxRecDepth 10000
namespace Go.Proofs.Ks
open Go Go.Pg Go.Proofs
def lkAt (L : List Lk) (k : Int) : Lk := L.getD k.toNat ⟨0, 0, 0⟩
def walkF (L : List Lk) : List Int → Int → Int → Int × Int × Bool
  | [], f, n => (f, n, true)
  | k :: r, f, n => if (0 ≤ k ∧ k < (L.length : Int)) ∧ ((lkAt L k).a : Int) = f then walkF L r (lkAt L k).b (n + (lkAt L k).m) else (0, 0, false)
theorem lkAt_get {L : List Lk} {k : Int} (h : 0 ≤ k ∧ k < (L.length : Int)) : (L.map eLink)[k.toNat]? = some (eLink (lkAt L k)) ∧ (L.map eLink).getD k.toNat [] = eLink (lkAt L k) ∧ lkAt L k ∈ L := by
  have hl : k.toNat < L.length := by omega
  have e : L[k.toNat]? = some (lkAt L k) := by unfold lkAt; rw [List.getD_eq_getElem?_getD, List.getElem?_eq_getElem hl]; rfl
  have e2 : (L.map eLink)[k.toNat]? = some (eLink (lkAt L k)) := by rw [List.getElem?_map, e]; rfl
  exact ⟨e2, by rw [List.getD_eq_getElem?_getD, e2]; rfl, List.mem_of_getElem? e⟩
theorem walk_ok (nd : List Node) (L : List Lk) (l : List Int) (f0 : Int) (hL : L.length ≤ 10000) (hl : l.length ≤ 1000) (hm : ∀ l ∈ L, -1073741823 ≤ l.m ∧ l.m ≤ 1073741823) :
    OKv cx 90 [gSys nd L, ai f0, lInt l] (.tup [ai (walkF L l f0 0).1, ai (walkF L l f0 0).2.1, ab (walkF L l f0 0).2.2]) := by
  obtain ⟨RES, hRES⟩ : ∃ z, walkF L l f0 0 = z := ⟨_, rfl⟩
  rw [hRES]
  refine OKat.of_body (rs := [6, 7, 8]) Try.func90 rfl (by decide +kernel) rfl (by simp [Try.ntmps90]) ?_
  simp only [Try.ntmps90]
  repeat' first
    | apply jA | apply jB | apply jC | apply jD | apply jE | apply jF | apply jG | apply jH | apply jI
    | ((first | (apply jK cx_ok; decide) | (apply jN; rfl; decide) | apply jR); (simp (disch := omega) only [push_cast, simprocAttr] <;> rfl); all_goals try ((with_reducible intro hI); try first | (cases hI; done) | (simp only [INTS, zL] at hI; try first | (exfalso; omega) | (have hT : True := hI; clear hT hI))))
    | ((first | apply jj | apply jk); (iterate 2 (try (simp (disch := omega) only [push_cast, simprocAttr] <;> rfl))))

  refine AW.loop (fun n s => ∃ (k : Nat) (f u : Int) (rest : List Int), n = rest.length ∧ (l.drop k = rest) ∧ (walkF L rest f u = RES) ∧ (-1073741823 * (k : Int) ≤ u ∧ u ≤ 1073741823 * (k : Int)) ∧ (k ≤ l.length) ∧ s.tm 0 = gSys nd L ∧ s.tm 1 = ai f ∧ s.tm 9 = ai u ∧ s.tm 12 = lInt l ∧ s.tm 13 = ai l.length ∧ s.tm 14 = ai k) (l.length) ⟨0, f0, 0, l, rfl, rfl, hRES, (by omega), (Nat.zero_le _), ?_, ?_, ?_, ?_, ?_, ?_⟩ ?_
  iterate 6 (first | (simp (disch := omega) only [push_cast, simprocAttr] <;> first | rfl | omega) | omega)
  rintro n s ⟨k, f, u, rest, hn, hp0, hp1, hp2, hp3, hS⟩
  rcases rest with _ | ⟨x, rest⟩
  · have hk := drop_nil hp0
    unfold walkF at hp1
    subst hp1
    repeat' first
      | apply jA | apply jB | apply jC | apply jD | apply jE | apply jF | apply jG | apply jH | apply jI
      | ((first | (apply jK cx_ok; decide) | (apply jN; rfl; decide) | apply jR); (simp (disch := omega) only [push_cast, simprocAttr, hS, hk] <;> rfl); all_goals try ((with_reducible intro hI); try first | (cases hI; done) | (simp only [INTS, zL] at hI; try first | (exfalso; omega) | (have hT : True := hI; clear hT hI))))
      | ((first | apply jj | apply jk); (iterate 2 (try (simp (disch := omega) only [push_cast, simprocAttr, hS, hk] <;> rfl))))

    all_goals (show _ = _; rfl)
  · obtain ⟨hk, hg, hd', hl', hmx, hx⟩ := drop_cons hp0 eInt []
    unfold walkF at hp1
    by_cases h0 : 0 ≤ x ∧ x < (L.length : Int)
    · obtain ⟨g1, g2, g3⟩ := lkAt_get h0
      obtain ⟨m1, m2⟩ := hm _ g3
      obtain ⟨Y, hY⟩ : ∃ z, lkAt L x = z := ⟨_, rfl⟩
      rw [hY] at g1 g2 g3 m1 m2 hp1
      obtain ⟨x0, x1⟩ := h0
      by_cases ha : (Y.a : Int) = f
      · have haT : ((Y.a : Int) = f) = True := eq_true ha
        rw [if_pos ⟨⟨x0, x1⟩, ha⟩] at hp1
        repeat' first
          | apply jA | apply jB | apply jC | apply jD | apply jE | apply jF | apply jG | apply jH | apply jI
          | ((first | (apply jK cx_ok; decide) | (apply jN; rfl; decide) | apply jR); (simp (disch := omega) only [push_cast, simprocAttr, hS, hk, hg, hx, x0, x1, g1, g2, haT] <;> rfl); all_goals try ((with_reducible intro hI); try first | (cases hI; done) | (simp only [INTS, zL] at hI; try first | (exfalso; omega) | (have hT : True := hI; clear hT hI))))
          | ((first | apply jj | apply jk); (iterate 2 (try (simp (disch := omega) only [push_cast, simprocAttr, hS, hk, hg, hx, x0, x1, g1, g2, haT] <;> rfl))))

        all_goals (refine ⟨rest.length, ?_, k + 1, Y.b, u + Y.m, rest, rfl, hd', hp1, (by omega), (by omega), ?_, ?_, ?_, ?_, ?_, ?_⟩; ((simp only [zD] at *; omega)); all_goals first | (simp (disch := omega) only [push_cast, simprocAttr, hS, hk, hg, hx, x0, x1, g1, g2, haT] <;> first | rfl | omega) | omega)
      · have haF : ((Y.a : Int) = f) = False := eq_false ha
        rw [if_neg (fun h => ha h.2)] at hp1
        subst hp1
        repeat' first
          | apply jA | apply jB | apply jC | apply jD | apply jE | apply jF | apply jG | apply jH | apply jI
          | ((first | (apply jK cx_ok; decide) | (apply jN; rfl; decide) | apply jR); (simp (disch := omega) only [push_cast, simprocAttr, hS, hk, hg, hx, x0, x1, g1, g2, haF] <;> rfl); all_goals try ((with_reducible intro hI); try first | (cases hI; done) | (simp only [INTS, zL] at hI; try first | (exfalso; omega) | (have hT : True := hI; clear hT hI))))
          | ((first | apply jj | apply jk); (iterate 2 (try (simp (disch := omega) only [push_cast, simprocAttr, hS, hk, hg, hx, x0, x1, g1, g2, haF] <;> rfl))))

        all_goals (show _ = _; rfl)
    · rw [if_neg (fun h => h0 h.1)] at hp1
      subst hp1
      by_cases x0 : 0 ≤ x
      · have x1 : (L.length : Int) ≤ x := by omega
        repeat' first
          | apply jA | apply jB | apply jC | apply jD | apply jE | apply jF | apply jG | apply jH | apply jI
          | ((first | (apply jK cx_ok; decide) | (apply jN; rfl; decide) | apply jR); (simp (disch := omega) only [push_cast, simprocAttr, hS, hk, hg, hx, x0, x1] <;> rfl); all_goals try ((with_reducible intro hI); try first | (cases hI; done) | (simp only [INTS, zL] at hI; try first | (exfalso; omega) | (have hT : True := hI; clear hT hI))))
          | ((first | apply jj | apply jk); (iterate 2 (try (simp (disch := omega) only [push_cast, simprocAttr, hS, hk, hg, hx, x0, x1] <;> rfl))))

        all_goals (show _ = _; rfl)
      · have x1 : x < 0 := by omega
        repeat' first
          | apply jA | apply jB | apply jC | apply jD | apply jE | apply jF | apply jG | apply jH | apply jI
          | ((first | (apply jK cx_ok; decide) | (apply jN; rfl; decide) | apply jR); (simp (disch := omega) only [push_cast, simprocAttr, hS, hk, hg, hx, x1] <;> rfl); all_goals try ((with_reducible intro hI); try first | (cases hI; done) | (simp only [INTS, zL] at hI; try first | (exfalso; omega) | (have hT : True := hI; clear hT hI))))
          | ((first | apply jj | apply jk); (iterate 2 (try (simp (disch := omega) only [push_cast, simprocAttr, hS, hk, hg, hx, x1] <;> rfl))))

        all_goals (show _ = _; rfl)
def cycleB (L : List Lk) (l : List Int) : Bool :=
  match l with
  | [] => false
  | c :: _ => decide (0 ≤ c ∧ c < (L.length : Int)) && ((walkF L l (lkAt L c).a 0).2.2 && (decide ((walkF L l (lkAt L c).a 0).1 = ((lkAt L c).a : Int)) && decide ((walkF L l (lkAt L c).a 0).2.1 < 0)))
theorem cycleB_cons (L : List Lk) (c : Int) (l : List Int) : cycleB L (c :: l) = (decide (0 ≤ c ∧ c < (L.length : Int)) && ((walkF L (c :: l) (lkAt L c).a 0).2.2 && (decide ((walkF L (c :: l) (lkAt L c).a 0).1 = ((lkAt L c).a : Int)) && decide ((walkF L (c :: l) (lkAt L c).a 0).2.1 < 0)))) := rfl
def checkClashE (r : Rec) (l : List Int) : Int := if checkE r = 0 then (if 60 < l.length then 2 else if cycleB (linksR r []) l = true then 0 else 8) else checkE r
theorem CheckClash_ok (r : Rec) (l : List Int) (hll : l.length ≤ 1099511627776) : OKv cx 28 [.agg (eRec r), lInt l] (ai (checkClashE r l)) := by
  unfold checkClashE
  by_cases hc : checkE r = 0
  · rw [if_pos hc]
    have hv := checkE_V hc
    obtain ⟨h1, h2, h3, h4, h5⟩ := links_facts (more := []) hv (by decide) nomore
    have hb : OKv cx 87 [.agg (eRec r), .lst []] (gSys (nodesR r []) (linksR r [])) := build_ok r [] hv (by decide) nomore
    by_cases hl : 60 < l.length
    · have hlI : (60 : Int) < (l.length : Int) := by omega
      rw [if_pos hl]
      refine OKat.of_body (rs := [4]) Try.func28 rfl (by decide +kernel) rfl (by simp [Try.ntmps28]) ?_
      simp only [Try.ntmps28]
      repeat' first
        | apply jA | apply jB | apply jC | apply jD | apply jE | apply jF | apply jG | apply jH | apply jI | apply jJ
        | refine W.draw cx_mixed (by decide +kernel) ?_
        | ((first | (apply jK cx_ok; decide) | (apply jL cx_ok; decide; decide) | (apply jN; rfl; decide) | (apply jO; rfl; decide; decide) | apply jR); (simp (disch := omega) only [push_cast, simprocAttr, hc, hlI] <;> rfl); all_goals try ((with_reducible intro hI); try first | (cases hI; done) | (simp only [INTS, zL] at hI; try first | (exfalso; omega) | (have hT : True := hI; clear hT hI))))
        | ((first | (apply jV cx_ok; decide) | (apply jW cx_ok; decide; decide)); (iterate 2 (simp (disch := omega) only [push_cast, simprocAttr, hc, hlI] <;> rfl)); (with_reducible first | exact Check_ok r | exact hb); try first | rfl | (simp (disch := omega) only [push_cast, simprocAttr, hc, hlI] <;> rfl))
        | ((first | apply jf | apply jg); (iterate 2 (try (simp (disch := omega) only [push_cast, simprocAttr, hc, hlI] <;> rfl))))

      all_goals (show _ = _; rfl)
    · have hlI : ¬ (60 : Int) < (l.length : Int) := by omega
      rw [if_neg hl]
      rcases l with _ | ⟨c, l⟩
      · rw [if_neg (by simp [cycleB])]
        refine OKat.of_body (rs := [4]) Try.func28 rfl (by decide +kernel) rfl (by simp [Try.ntmps28]) ?_
        simp only [Try.ntmps28]
        repeat' first
          | apply jA | apply jB | apply jC | apply jD | apply jE | apply jF | apply jG | apply jH | apply jI | apply jJ
          | refine W.draw cx_mixed (by decide +kernel) ?_
          | ((first | (apply jK cx_ok; decide) | (apply jL cx_ok; decide; decide) | (apply jN; rfl; decide) | (apply jO; rfl; decide; decide) | apply jR); (simp (disch := omega) only [push_cast, simprocAttr, hc, zW, zC] <;> rfl); all_goals try ((with_reducible intro hI); try first | (cases hI; done) | (simp only [INTS, zL] at hI; try first | (exfalso; omega) | (have hT : True := hI; clear hT hI))))
          | ((first | (apply jV cx_ok; decide) | (apply jW cx_ok; decide; decide)); (iterate 2 (simp (disch := omega) only [push_cast, simprocAttr, hc, zW, zC] <;> rfl)); (with_reducible first | exact Check_ok r | exact hb); try first | rfl | (simp (disch := omega) only [push_cast, simprocAttr, hc, zW, zC] <;> rfl))
          | ((first | apply jf | apply jg); (iterate 2 (try (simp (disch := omega) only [push_cast, simprocAttr, hc, zW, zC] <;> rfl))))

        all_goals (show _ = _; rfl)
      · have hlp : (((c :: l).length : Nat) : Int) ≠ 0 := by simp only [zD]; omega
        have hlp2 : (0 : Int) < (((c :: l).length : Nat) : Int) := by simp only [zD]; omega
        have hwk := fun f0 => walk_ok (nodesR r []) (linksR r []) (c :: l) f0 h2 (by omega) h4
        have hcy := cycleB_cons (linksR r []) c l
        by_cases h0 : 0 ≤ c ∧ c < ((linksR r []).length : Int)
        · obtain ⟨g1, g2, g3⟩ := lkAt_get h0
          obtain ⟨LK, hLK⟩ : ∃ z, linksR r [] = z := ⟨_, rfl⟩
          rw [hLK] at g1 g2 hcy h0 hwk hb ⊢
          obtain ⟨Y, hY⟩ : ∃ z, lkAt LK c = z := ⟨_, rfl⟩
          rw [hY] at g1 g2 hcy
          have hw := hwk (Y.a : Int)
          obtain ⟨x0, x1⟩ := h0
          obtain ⟨⟨e1, e2, e3⟩, hE⟩ : ∃ z, walkF LK (c :: l) (Y.a : Int) 0 = z := ⟨_, rfl⟩
          rw [hE] at hw
          have hcy2 : cycleB LK (c :: l) = (decide (0 ≤ c ∧ c < (LK.length : Int)) && (e3 && (decide (e1 = (Y.a : Int)) && decide (e2 < 0)))) := by rw [hcy, hE]
          have e0 : decide (0 ≤ c ∧ c < (LK.length : Int)) = true := decide_eq_true ⟨x0, x1⟩
          rw [e0, Bool.true_and] at hcy2
          rw [hcy2]
          dsimp only at hw
          clear hwk hcy hE
          have gl0 : ((c :: l).map eInt)[0]? = some (eInt c) := rfl
          have gd0 : ((c :: l).map eInt).getD 0 [] = eInt c := rfl
          clear hcy2
          obtain ⟨CL, hCL⟩ : ∃ z, c :: l = z := ⟨_, rfl⟩
          rw [hCL] at hlI hlp hlp2 hw gl0 gd0 ⊢
          rcases e3 with _ | _
          · rw [if_neg (by simp)]
            refine OKat.of_body (rs := [4]) Try.func28 rfl (by decide +kernel) rfl (by simp [Try.ntmps28]) ?_
            simp only [Try.ntmps28]
            repeat' first
              | apply jA | apply jB | apply jC | apply jD | apply jE | apply jF | apply jG | apply jH | apply jI | apply jJ
              | refine W.draw cx_mixed (by decide +kernel) ?_
              | ((first | (apply jK cx_ok; decide) | (apply jL cx_ok; decide; decide) | (apply jN; rfl; decide) | (apply jO; rfl; decide; decide) | apply jR); (simp (disch := omega) only [push_cast, simprocAttr, hc, hlI, hlp, hlp2, gl0, gd0, x0, x1, g1, g2] <;> rfl); all_goals try ((with_reducible intro hI); try first | (cases hI; done) | (simp only [INTS, zL] at hI; try first | (exfalso; omega) | (have hT : True := hI; clear hT hI))))
              | ((first | (apply jV cx_ok; decide) | (apply jW cx_ok; decide; decide)); (iterate 2 (simp (disch := omega) only [push_cast, simprocAttr, hc, hlI, hlp, hlp2, gl0, gd0, x0, x1, g1, g2] <;> rfl)); (with_reducible first | exact Check_ok r | exact hb | exact hw); try first | rfl | (simp (disch := omega) only [push_cast, simprocAttr, hc, hlI, hlp, hlp2, gl0, gd0, x0, x1, g1, g2] <;> rfl))
              | ((first | apply jf | apply jg); (iterate 2 (try (simp (disch := omega) only [push_cast, simprocAttr, hc, hlI, hlp, hlp2, gl0, gd0, x0, x1, g1, g2] <;> rfl))))

            all_goals (show _ = _; rfl)
          · by_cases q1 : e1 = (Y.a : Int)
            · have q1T : (e1 = (Y.a : Int)) = True := eq_true q1
              by_cases q2 : e2 < 0
              · rw [if_pos (by simp [q1, q2])]
                refine OKat.of_body (rs := [4]) Try.func28 rfl (by decide +kernel) rfl (by simp [Try.ntmps28]) ?_
                simp only [Try.ntmps28]
                repeat' first
                  | apply jA | apply jB | apply jC | apply jD | apply jE | apply jF | apply jG | apply jH | apply jI | apply jJ
                  | refine W.draw cx_mixed (by decide +kernel) ?_
                  | ((first | (apply jK cx_ok; decide) | (apply jL cx_ok; decide; decide) | (apply jN; rfl; decide) | (apply jO; rfl; decide; decide) | apply jR); (simp (disch := omega) only [push_cast, simprocAttr, hc, hlI, hlp, hlp2, gl0, gd0, x0, x1, g1, g2, q1T, q2] <;> rfl); all_goals try ((with_reducible intro hI); try first | (cases hI; done) | (simp only [INTS, zL] at hI; try first | (exfalso; omega) | (have hT : True := hI; clear hT hI))))
                  | ((first | (apply jV cx_ok; decide) | (apply jW cx_ok; decide; decide)); (iterate 2 (simp (disch := omega) only [push_cast, simprocAttr, hc, hlI, hlp, hlp2, gl0, gd0, x0, x1, g1, g2, q1T, q2] <;> rfl)); (with_reducible first | exact Check_ok r | exact hb | exact hw); try first | rfl | (simp (disch := omega) only [push_cast, simprocAttr, hc, hlI, hlp, hlp2, gl0, gd0, x0, x1, g1, g2, q1T, q2] <;> rfl))
                  | ((first | apply jf | apply jg); (iterate 2 (try (simp (disch := omega) only [push_cast, simprocAttr, hc, hlI, hlp, hlp2, gl0, gd0, x0, x1, g1, g2, q1T, q2] <;> rfl))))

                all_goals (show _ = _; rfl)
              · rw [if_neg (by simp [q1, q2])]
                have q2' : 0 ≤ e2 := by omega
                refine OKat.of_body (rs := [4]) Try.func28 rfl (by decide +kernel) rfl (by simp [Try.ntmps28]) ?_
                simp only [Try.ntmps28]
                repeat' first
                  | apply jA | apply jB | apply jC | apply jD | apply jE | apply jF | apply jG | apply jH | apply jI | apply jJ
                  | refine W.draw cx_mixed (by decide +kernel) ?_
                  | ((first | (apply jK cx_ok; decide) | (apply jL cx_ok; decide; decide) | (apply jN; rfl; decide) | (apply jO; rfl; decide; decide) | apply jR); (simp (disch := omega) only [push_cast, simprocAttr, hc, hlI, hlp, hlp2, gl0, gd0, x0, x1, g1, g2, q1T, q2'] <;> rfl); all_goals try ((with_reducible intro hI); try first | (cases hI; done) | (simp only [INTS, zL] at hI; try first | (exfalso; omega) | (have hT : True := hI; clear hT hI))))
                  | ((first | (apply jV cx_ok; decide) | (apply jW cx_ok; decide; decide)); (iterate 2 (simp (disch := omega) only [push_cast, simprocAttr, hc, hlI, hlp, hlp2, gl0, gd0, x0, x1, g1, g2, q1T, q2'] <;> rfl)); (with_reducible first | exact Check_ok r | exact hb | exact hw); try first | rfl | (simp (disch := omega) only [push_cast, simprocAttr, hc, hlI, hlp, hlp2, gl0, gd0, x0, x1, g1, g2, q1T, q2'] <;> rfl))
                  | ((first | apply jf | apply jg); (iterate 2 (try (simp (disch := omega) only [push_cast, simprocAttr, hc, hlI, hlp, hlp2, gl0, gd0, x0, x1, g1, g2, q1T, q2'] <;> rfl))))

                all_goals (show _ = _; rfl)
            · have q1F : (e1 = (Y.a : Int)) = False := eq_false q1
              rw [if_neg (by simp [q1])]
              refine OKat.of_body (rs := [4]) Try.func28 rfl (by decide +kernel) rfl (by simp [Try.ntmps28]) ?_
              simp only [Try.ntmps28]
              repeat' first
                | apply jA | apply jB | apply jC | apply jD | apply jE | apply jF | apply jG | apply jH | apply jI | apply jJ
                | refine W.draw cx_mixed (by decide +kernel) ?_
                | ((first | (apply jK cx_ok; decide) | (apply jL cx_ok; decide; decide) | (apply jN; rfl; decide) | (apply jO; rfl; decide; decide) | apply jR); (simp (disch := omega) only [push_cast, simprocAttr, hc, hlI, hlp, hlp2, gl0, gd0, x0, x1, g1, g2, q1F] <;> rfl); all_goals try ((with_reducible intro hI); try first | (cases hI; done) | (simp only [INTS, zL] at hI; try first | (exfalso; omega) | (have hT : True := hI; clear hT hI))))
                | ((first | (apply jV cx_ok; decide) | (apply jW cx_ok; decide; decide)); (iterate 2 (simp (disch := omega) only [push_cast, simprocAttr, hc, hlI, hlp, hlp2, gl0, gd0, x0, x1, g1, g2, q1F] <;> rfl)); (with_reducible first | exact Check_ok r | exact hb | exact hw); try first | rfl | (simp (disch := omega) only [push_cast, simprocAttr, hc, hlI, hlp, hlp2, gl0, gd0, x0, x1, g1, g2, q1F] <;> rfl))
                | ((first | apply jf | apply jg); (iterate 2 (try (simp (disch := omega) only [push_cast, simprocAttr, hc, hlI, hlp, hlp2, gl0, gd0, x0, x1, g1, g2, q1F] <;> rfl))))

              all_goals (show _ = _; rfl)
        · have e0 : decide (0 ≤ c ∧ c < ((linksR r []).length : Int)) = false := decide_eq_false h0
          rw [hcy, e0, Bool.false_and, if_neg (by decide)]
          have gl0 : ((c :: l).map eInt)[0]? = some (eInt c) := rfl
          have gd0 : ((c :: l).map eInt).getD 0 [] = eInt c := rfl
          clear hcy hwk
          obtain ⟨CL, hCL⟩ : ∃ z, c :: l = z := ⟨_, rfl⟩
          rw [hCL] at hlI hlp hlp2 gl0 gd0 ⊢
          by_cases x0 : 0 ≤ c
          · have x1 : ((linksR r []).length : Int) ≤ c := by omega
            refine OKat.of_body (rs := [4]) Try.func28 rfl (by decide +kernel) rfl (by simp [Try.ntmps28]) ?_
            simp only [Try.ntmps28]
            repeat' first
              | apply jA | apply jB | apply jC | apply jD | apply jE | apply jF | apply jG | apply jH | apply jI | apply jJ
              | refine W.draw cx_mixed (by decide +kernel) ?_
              | ((first | (apply jK cx_ok; decide) | (apply jL cx_ok; decide; decide) | (apply jN; rfl; decide) | (apply jO; rfl; decide; decide) | apply jR); (simp (disch := omega) only [push_cast, simprocAttr, hc, hlI, hlp, hlp2, gl0, gd0, x0, x1] <;> rfl); all_goals try ((with_reducible intro hI); try first | (cases hI; done) | (simp only [INTS, zL] at hI; try first | (exfalso; omega) | (have hT : True := hI; clear hT hI))))
              | ((first | (apply jV cx_ok; decide) | (apply jW cx_ok; decide; decide)); (iterate 2 (simp (disch := omega) only [push_cast, simprocAttr, hc, hlI, hlp, hlp2, gl0, gd0, x0, x1] <;> rfl)); (with_reducible first | exact Check_ok r | exact hb); try first | rfl | (simp (disch := omega) only [push_cast, simprocAttr, hc, hlI, hlp, hlp2, gl0, gd0, x0, x1] <;> rfl))
              | ((first | apply jf | apply jg); (iterate 2 (try (simp (disch := omega) only [push_cast, simprocAttr, hc, hlI, hlp, hlp2, gl0, gd0, x0, x1] <;> rfl))))

            all_goals (show _ = _; rfl)
          · have x1 : c < 0 := by omega
            refine OKat.of_body (rs := [4]) Try.func28 rfl (by decide +kernel) rfl (by simp [Try.ntmps28]) ?_
            simp only [Try.ntmps28]
            repeat' first
              | apply jA | apply jB | apply jC | apply jD | apply jE | apply jF | apply jG | apply jH | apply jI | apply jJ
              | refine W.draw cx_mixed (by decide +kernel) ?_
              | ((first | (apply jK cx_ok; decide) | (apply jL cx_ok; decide; decide) | (apply jN; rfl; decide) | (apply jO; rfl; decide; decide) | apply jR); (simp (disch := omega) only [push_cast, simprocAttr, hc, hlI, hlp, hlp2, gl0, gd0, x1] <;> rfl); all_goals try ((with_reducible intro hI); try first | (cases hI; done) | (simp only [INTS, zL] at hI; try first | (exfalso; omega) | (have hT : True := hI; clear hT hI))))
              | ((first | (apply jV cx_ok; decide) | (apply jW cx_ok; decide; decide)); (iterate 2 (simp (disch := omega) only [push_cast, simprocAttr, hc, hlI, hlp, hlp2, gl0, gd0, x1] <;> rfl)); (with_reducible first | exact Check_ok r | exact hb); try first | rfl | (simp (disch := omega) only [push_cast, simprocAttr, hc, hlI, hlp, hlp2, gl0, gd0, x1] <;> rfl))
              | ((first | apply jf | apply jg); (iterate 2 (try (simp (disch := omega) only [push_cast, simprocAttr, hc, hlI, hlp, hlp2, gl0, gd0, x1] <;> rfl))))

            all_goals (show _ = _; rfl)
  · rw [if_neg hc]
    have hcF : (checkE r = 0) = False := eq_false hc
    refine OKat.of_body (rs := [4]) Try.func28 rfl (by decide +kernel) rfl (by simp [Try.ntmps28]) ?_
    simp only [Try.ntmps28]
    repeat' first
      | apply jA | apply jB | apply jC | apply jD | apply jE | apply jF | apply jG | apply jH | apply jI | apply jJ
      | refine W.draw cx_mixed (by decide +kernel) ?_
      | ((first | (apply jK cx_ok; decide) | (apply jL cx_ok; decide; decide) | (apply jN; rfl; decide) | (apply jO; rfl; decide; decide) | apply jR); (simp (disch := omega) only [push_cast, simprocAttr, hcF] <;> rfl); all_goals try ((with_reducible intro hI); try first | (cases hI; done) | (simp only [INTS, zL] at hI; try first | (exfalso; omega) | (have hT : True := hI; clear hT hI))))
      | ((first | (apply jV cx_ok; decide) | (apply jW cx_ok; decide; decide)); (iterate 2 (simp (disch := omega) only [push_cast, simprocAttr, hcF] <;> rfl)); (with_reducible first | exact Check_ok r); try first | rfl | (simp (disch := omega) only [push_cast, simprocAttr, hcF] <;> rfl))
      | ((first | apply jf | apply jg); (iterate 2 (try (simp (disch := omega) only [push_cast, simprocAttr, hcF] <;> rfl))))

    all_goals (show _ = _; rfl)
end Go.Proofs.Ks

namespace Go.Proofs.Ks
open Go Go.Pg Go.Proofs
theorem reverse89 : ReverseC cx.P 89 := fun blk off cap zs w h1 h2 => Try.slices_Reverse_int blk off cap zs w h1 h2
theorem sort99_0 : SortC0 cx.P 99 := fun p cap w => Try.slices_Sort_int_none p cap w
def okB (L : List Lk) (B : List Int) (b : Int) : Bool := decide (0 ≤ b) && (decide (b < (B.length : Int)) && (decide (0 ≤ B.getD b.toNat 0) && decide (B.getD b.toNat 0 < (L.length : Int))))
def backN (L : List Lk) (B : List Int) : Nat → Int → Option Int
  | 0, b => some b
  | k + 1, b => if okB L B b = true then backN L B k (lkAt L (B.getD b.toNat 0)).a else none
def cycF (L : List Lk) (B : List Int) (b0 : Int) : Nat → Int → List Int → Option (List Int)
  | 0, _, _ => none
  | k + 1, u, o => if okB L B u = true then (if ((lkAt L (B.getD u.toNat 0)).a : Int) = b0 then some (o ++ [B.getD u.toNat 0]) else cycF L B b0 k (lkAt L (B.getD u.toNat 0)).a (o ++ [B.getD u.toNat 0])) else none
def clashO (n : Nat) (L : List Lk) : Option (List Int) :=
  match backN L (lengthsF n L (-1)).2.1 n (lengthsF n L (-1)).2.2 with
  | some b => (cycF L (lengthsF n L (-1)).2.1 b 1000 b []).map List.reverse
  | none => none
theorem okB_get {L : List Lk} {B : List Int} {b : Int} (h : okB L B b = true) : 0 ≤ b ∧ b < (B.length : Int) ∧ 0 ≤ B.getD b.toNat 0 ∧ B.getD b.toNat 0 < (L.length : Int) ∧ (B.map eInt)[b.toNat]? = some (eInt (B.getD b.toNat 0)) ∧ (B.map eInt).getD b.toNat [] = eInt (B.getD b.toNat 0) := by
  unfold okB at h
  simp only [Bool.and_eq_true, decide_eq_true_eq] at h
  obtain ⟨h1, h2, h3, h4⟩ := h
  have hl : b.toNat < B.length := by omega
  have e : B[b.toNat]? = some (B.getD b.toNat 0) := by rw [List.getD_eq_getElem?_getD, List.getElem?_eq_getElem hl]; rfl
  have e2 : (B.map eInt)[b.toNat]? = some (eInt (B.getD b.toNat 0)) := by rw [List.getElem?_map, e]; rfl
  exact ⟨h1, h2, h3, h4, e2, by rw [List.getD_eq_getElem?_getD, e2]; rfl⟩
theorem cycF_ne {L : List Lk} {B : List Int} {b0 : Int} {OUT : List Int} : ∀ {k : Nat} {u : Int} {o : List Int}, cycF L B b0 k u o = some OUT → OUT ≠ [] ∧ OUT.length ≤ o.length + k
  | 0, _, _, h => by simp [cycF] at h
  | k + 1, u, o, h => by
    unfold cycF at h
    split at h
    · split at h
      · injection h with h; subst h; exact ⟨by simp, by simp only [zE, zD, zC]; omega⟩
      · obtain ⟨h1, h2⟩ := cycF_ne h
        simp at h2
        exact ⟨h1, by omega⟩
    · cases h
theorem Clash_some (r : Rec) (hc : checkE r = 0) (hq : consP r [] = false) {OUT : List Int} (ho : clashO (nodesR r []).length (linksR r []) = some OUT) : OKv cx 27 [.agg (eRec r)] (.tup [lInt OUT, ab true, ai 0]) := by
  have hv := checkE_V hc
  obtain ⟨h1, h2, h3, h4, h5⟩ := links_facts (more := []) hv (by decide) nomore
  have hb : OKv cx 87 [.agg (eRec r), .lst []] (gSys (nodesR r []) (linksR r [])) := build_ok r [] hv (by decide) nomore
  have hln := lengths_ok (nodesR r []) (linksR r []) (-1) h1 h2 h3 h4
  have hneg : ¬ (lengthsF (nodesR r []).length (linksR r []) (-1)).2.2 < 0 := by unfold consP at hq; exact of_decide_eq_false hq
  unfold clashO at ho
  obtain ⟨LK, hLK⟩ : ∃ z, linksR r [] = z := ⟨_, rfl⟩
  rw [hLK] at ho hln hneg hb h2
  obtain ⟨⟨DS, PB, bad⟩, hB⟩ : ∃ z, lengthsF (nodesR r []).length LK (-1) = z := ⟨_, rfl⟩
  rw [hB] at hln hneg ho
  dsimp only at hln hneg ho
  have hneg' : 0 ≤ bad := by omega
  split at ho
  · rename_i B0 hB0
    rw [Option.map_eq_some_iff] at ho
    obtain ⟨OUT, ho, rfl⟩ := ho
    obtain ⟨hne, hol⟩ := cycF_ne ho
    simp only [zC, Nat.zero_add] at hol
    have hrv : ∀ {args : List AV} {H : Nat → Option AO} {m id lo : Nat}, args = [.ref id 0 OUT.length] → Pg.rowAt H id = some { k := 1, es := OUT.map eInt, ty := 3, lo := lo } →
        OKm cx 89 args H m (fun v H' nx' => v = .tup [] ∧ H' = updH H id (.row { k := 1, es := OUT.reverse.map eInt, ty := 3, lo := lo }) ∧ nx' = m) := by
      rintro _ H m id lo rfl h
      exact OKm.reverses ⟨_, Try.func89, by decide +kernel, rfl⟩ reverse89 hne (by omega) h
    refine OKat.of_body (rs := [2, 3, 4]) Try.func27 rfl (by decide +kernel) rfl (by simp [Try.ntmps27]) ?_
    simp only [Try.ntmps27]
    repeat' first
      | apply jA | apply jB | apply jC | apply jD | apply jE | apply jF | apply jG | apply jH | apply jI | apply jJ
      | refine W.draw cx_mixed (by decide +kernel) ?_
      | ((first | (apply jK cx_ok; decide) | (apply jL cx_ok; decide; decide) | apply jR); (simp (disch := (first | omega | (simp only [vC]; omega))) only [push_cast, simprocAttr, takeM, dropM, zK, zA, zB, zN, zQ, zR, zO, zP, zT, zS, zU, leT, zH, hc, hneg'] <;> rfl); all_goals try ((with_reducible intro hI); try first | (cases hI; done) | (simp only [INTS, zL] at hI; try first | (exfalso; omega) | (have hT : True := hI; clear hT hI))))
      | (apply jT cx_ok; decide; rfl; rfl; rfl; decide; (iterate 3 (simp (disch := (first | omega | (simp only [vC]; omega))) only [push_cast, simprocAttr, takeM, dropM, zK, zA, zB, zN, zQ, zR, zO, zP, zT, zS, zU, leT, zH, hc, hneg'] <;> rfl)); (first | (focus (simp; done)) | (intro c hc; obtain ⟨x, _, rfl⟩ := List.mem_map.1 hc; rfl)); ((first | rfl | simp (disch := omega) only [push_cast])); ((try dsimp only); (try simp only [vC]); omega); ((try dsimp only); (try simp only [vC]); omega))
      | ((first | (apply jV cx_ok; decide) | (apply jW cx_ok; decide; decide)); (iterate 2 (simp (disch := (first | omega | (simp only [vC]; omega))) only [push_cast, simprocAttr, takeM, dropM, zK, zA, zB, zN, zQ, zR, zO, zP, zT, zS, zU, leT, zH, hc, hneg'] <;> rfl)); (with_reducible first | exact Check_ok r | exact hb | exact hln); try first | rfl | (simp (disch := (first | omega | (simp only [vC]; omega))) only [push_cast, simprocAttr, takeM, dropM, zK, zA, zB, zN, zQ, zR, zO, zP, zT, zS, zU, leT, zH, hc, hneg'] <;> rfl))
      | ((first | apply jj | apply jk); (iterate 2 (try (simp (disch := (first | omega | (simp only [vC]; omega))) only [push_cast, simprocAttr, takeM, dropM, zK, zA, zB, zN, zQ, zR, zO, zP, zT, zS, zU, leT, zH, hc, hneg'] <;> rfl))))

    refine AW.loop (fun n s => ∃ (k : Nat) (b : Int), n = (nodesR r []).length - k ∧ (k ≤ (nodesR r []).length) ∧ (backN LK PB ((nodesR r []).length - k) b = some B0) ∧ s.tm 6 = gSys (nodesR r []) LK ∧ s.tm 8 = lInt PB ∧ s.tm 9 = ai b ∧ s.tm 31 = ai (nodesR r []).length ∧ s.tm 32 = ai k) ((nodesR r []).length) ⟨0, bad, rfl, (Nat.zero_le _), hB0, ?_, ?_, ?_, ?_, ?_⟩ ?_
    iterate 5 (first | (simp (disch := omega) only [push_cast, simprocAttr, hc, hneg'] <;> first | rfl | omega) | omega)
    rintro n0 s0 ⟨k0, b0, hn0, hp00, hp10, hS0⟩
    by_cases hk : k0 < (nodesR r []).length
    · have hkI : (k0 : Int) < ((nodesR r []).length : Int) := by omega
      rw [show (nodesR r []).length - k0 = (nodesR r []).length - (k0 + 1) + 1 by omega, backN] at hp10
      split at hp10
      · rename_i hok
        obtain ⟨q1, q2, q3, q4, q5, q6⟩ := okB_get hok
        obtain ⟨g1, g2, g3⟩ := lkAt_get ⟨q3, q4⟩
        obtain ⟨Z, hZ⟩ : ∃ z, PB.getD b0.toNat 0 = z := ⟨_, rfl⟩
        rw [hZ] at q3 q4 q5 q6 g1 g2 hp10
        repeat' first
          | apply jA | apply jB | apply jC | apply jD | apply jE | apply jF | apply jG | apply jH | apply jI | apply jJ
          | refine W.draw cx_mixed (by decide +kernel) ?_
          | ((first | (apply jK cx_ok; decide) | (apply jL cx_ok; decide; decide) | apply jR); (simp (disch := omega) only [push_cast, simprocAttr, hS0, hkI, q1, q2, q3, q4, q5, q6, g1, g2] <;> rfl); all_goals try ((with_reducible intro hI); try first | (cases hI; done) | (simp only [INTS, zL] at hI; try first | (exfalso; omega) | (have hT : True := hI; clear hT hI))))
          | ((first | apply jj | apply jk); (iterate 2 (try (simp (disch := omega) only [push_cast, simprocAttr, hS0, hkI, q1, q2, q3, q4, q5, q6, g1, g2] <;> rfl))))

        all_goals (refine ⟨(nodesR r []).length - (k0 + 1), ?_, k0 + 1, (lkAt LK Z).a, rfl, (by omega), hp10, ?_, ?_, ?_, ?_, ?_⟩; (omega); all_goals first | (simp (disch := omega) only [push_cast, simprocAttr, hS0, hkI, q1, q2, q3, q4, q5, q6, g1, g2] <;> first | rfl | omega) | omega)
      · cases hp10
    have hkI : ¬ (k0 : Int) < ((nodesR r []).length : Int) := by omega
    rw [show (nodesR r []).length - k0 = 0 by omega, backN] at hp10
    injection hp10 with hp10
    subst hp10
    repeat' first
      | apply jA | apply jB | apply jC | apply jD | apply jE | apply jF | apply jG | apply jH | apply jI | apply jJ
      | refine W.draw cx_mixed (by decide +kernel) ?_
      | ((first | (apply jK cx_ok; decide) | (apply jL cx_ok; decide; decide) | apply jR); (simp (disch := (first | omega | (simp only [vC]; omega))) only [push_cast, simprocAttr, takeM, dropM, zK, zA, zB, zN, zQ, zR, zO, zP, zT, zS, zU, leT, zH, hS0, hkI] <;> rfl); all_goals try ((with_reducible intro hI); try first | (cases hI; done) | (simp only [INTS, zL] at hI; try first | (exfalso; omega) | (have hT : True := hI; clear hT hI))))
      | (apply jT cx_ok; decide; rfl; rfl; rfl; decide; (iterate 3 (simp (disch := (first | omega | (simp only [vC]; omega))) only [push_cast, simprocAttr, takeM, dropM, zK, zA, zB, zN, zQ, zR, zO, zP, zT, zS, zU, leT, zH, hS0, hkI] <;> rfl)); (first | (focus (simp; done)) | (intro c hc; obtain ⟨x, _, rfl⟩ := List.mem_map.1 hc; rfl)); ((first | rfl | simp (disch := omega) only [push_cast])); ((try dsimp only); (try simp only [vC]); omega); ((try dsimp only); (try simp only [vC]); omega))
      | ((first | apply jj | apply jk); (iterate 2 (try (simp (disch := (first | omega | (simp only [vC]; omega))) only [push_cast, simprocAttr, takeM, dropM, zK, zA, zB, zN, zQ, zR, zO, zP, zT, zS, zU, leT, zH, hS0, hkI] <;> rfl))))

    refine AW.adopt 10 1 3 ?_ ?_
    · (simp (disch := omega) only [push_cast, simprocAttr, hS0, hkI])
    refine AW.loop (fun n s => ∃ (i : Nat) (u : Int) (o : List Int), n = i ∧ (cycF LK PB b0 i u o = some OUT) ∧ (o.length + i = 1000) ∧ s0.nx + 1 ≤ s.nx ∧ s.tm 6 = gSys (nodesR r []) LK ∧ s.tm 8 = lInt PB ∧ s.tm 9 = ai b0 ∧ s.tm 10 = .ref s0.nx 0 o.length ∧ s.tm 11 = ai u ∧ Pg.rowAt s.H s0.nx = some { k := 1, es := o.map eInt, ty := 3, lo := o.length }) (1000) ⟨1000, b0, [], rfl, ho, rfl, ?_, ?_, ?_, ?_, ?_, ?_, ?_⟩ ?_
    iterate 7 (first | (simp (disch := omega) only [push_cast, simprocAttr, hS0, hkI, zW, zC] <;> first | rfl | omega) | omega)
    rintro n2 s2 ⟨i2, u2, o2, hn2, hp02, hp12, hnl2, hS2⟩
    rcases i2 with _ | i2
    · simp [cycF] at hp02
    · unfold cycF at hp02
      split at hp02
      · rename_i hok
        obtain ⟨q1, q2, q3, q4, q5, q6⟩ := okB_get hok
        obtain ⟨g1, g2, g3⟩ := lkAt_get ⟨q3, q4⟩
        obtain ⟨Z, hZ⟩ : ∃ z, PB.getD u2.toNat 0 = z := ⟨_, rfl⟩
        rw [hZ] at q3 q4 q5 q6 g1 g2 hp02
        by_cases hst : ((lkAt LK Z).a : Int) = b0
        · have hstT : (((lkAt LK Z).a : Int) = b0) = True := eq_true hst
          rw [if_pos hst] at hp02
          injection hp02 with hp02
          subst hp02
          repeat' first
            | apply jA | apply jB | apply jC | apply jD | apply jE | apply jF | apply jG | apply jH | apply jI | apply jJ
            | refine W.draw cx_mixed (by decide +kernel) ?_
            | ((first | (apply jK cx_ok; decide) | (apply jL cx_ok; decide; decide) | apply jR); (simp (disch := (first | omega | (simp only [vC]; omega))) only [push_cast, simprocAttr, takeM, dropM, zK, zA, zB, zN, zQ, zR, zO, zP, zT, zS, zU, leT, zH, hS2, hstT, hZ, q1, q2, q3, q4, q5, q6, g1, g2, natNe, zI, zG, zJ, zY, zX, zW, zE, zD, zC, isEmpty_map, zV, zM] <;> rfl); all_goals try ((with_reducible intro hI); try first | (cases hI; done) | (simp only [INTS, zL] at hI; try first | (exfalso; omega) | (have hT : True := hI; clear hT hI))))
            | (apply jT cx_ok; decide; rfl; rfl; rfl; decide; (iterate 3 (simp (disch := (first | omega | (simp only [vC]; omega))) only [push_cast, simprocAttr, takeM, dropM, zK, zA, zB, zN, zQ, zR, zO, zP, zT, zS, zU, leT, zH, hS2, hstT, hZ, q1, q2, q3, q4, q5, q6, g1, g2, natNe, zI, zG, zJ, zY, zX, zW, zE, zD, zC, isEmpty_map, zV, zM] <;> rfl)); (first | (focus (simp; done)) | (intro c hc; obtain ⟨x, _, rfl⟩ := List.mem_map.1 hc; rfl)); ((first | rfl | simp (disch := omega) only [push_cast])); ((try dsimp only); (try simp only [vC]); omega); ((try dsimp only); (try simp only [vC]); omega))
            | ((first | apply jj | apply jk); (iterate 2 (try (simp (disch := (first | omega | (simp only [vC]; omega))) only [push_cast, simprocAttr, takeM, dropM, zK, zA, zB, zN, zQ, zR, zO, zP, zT, zS, zU, leT, zH, hS2, hstT, hZ, q1, q2, q3, q4, q5, q6, g1, g2, natNe, zI, zG, zJ, zY, zX, zW, zE, zD, zC, isEmpty_map, zV, zM] <;> rfl))))

          refine W.callm cx_ok (by decide) (f := 89) (caps := []) (by simp (disch := omega) only [push_cast, simprocAttr, hS2, hstT, hZ, q1, q2, q3, q4, q5, q6, g1, g2, natNe, zI, zG, zJ, zY, zX, zW, zE, zD, zC, isEmpty_map, zV, zM] <;> rfl) (hrv (id := s0.nx) (by simp (disch := omega) only [push_cast, simprocAttr, hS2, hstT, hZ, q1, q2, q3, q4, q5, q6, g1, g2, natNe, zI, zG, zJ, zY, zX, zW, zE, zD, zC, isEmpty_map, zV, zM] <;> rfl) (by simp (disch := omega) only [push_cast, simprocAttr, hS2, hstT, hZ, q1, q2, q3, q4, q5, q6, g1, g2, natNe, zI, zG, zJ, zY, zX, zW, zE, zD, zC, isEmpty_map, zV, zM] <;> rfl)) ?_
          rintro _ _ _ ⟨rfl, rfl, rfl⟩
          repeat' first
            | apply jA | apply jB | apply jC | apply jD | apply jE | apply jF | apply jG | apply jH | apply jI | apply jJ
            | refine W.draw cx_mixed (by decide +kernel) ?_
            | ((first | (apply jK cx_ok; decide) | (apply jL cx_ok; decide; decide) | apply jR); (simp (disch := (first | omega | (simp only [vC]; omega))) only [push_cast, simprocAttr, takeM, dropM, zK, zA, zB, zN, zQ, zR, zO, zP, zT, zS, zU, leT, zH, hS2, hstT, hZ, q1, q2, q3, q4, q5, q6, g1, g2, natNe, zI, zG, zJ, zY, zX, zW, zE, zD, zC, isEmpty_map, zV, zM, List.length_reverse] <;> rfl); all_goals try ((with_reducible intro hI); try first | (cases hI; done) | (simp only [INTS, zL] at hI; try first | (exfalso; omega) | (have hT : True := hI; clear hT hI))))
            | (apply jT cx_ok; decide; rfl; rfl; rfl; decide; (iterate 3 (simp (disch := (first | omega | (simp only [vC]; omega))) only [push_cast, simprocAttr, takeM, dropM, zK, zA, zB, zN, zQ, zR, zO, zP, zT, zS, zU, leT, zH, hS2, hstT, hZ, q1, q2, q3, q4, q5, q6, g1, g2, natNe, zI, zG, zJ, zY, zX, zW, zE, zD, zC, isEmpty_map, zV, zM, List.length_reverse] <;> rfl)); (first | (focus (simp; done)) | (intro c hc; obtain ⟨x, _, rfl⟩ := List.mem_map.1 hc; rfl)); ((first | rfl | simp (disch := omega) only [push_cast])); ((try dsimp only); (try simp only [vC]); omega); ((try dsimp only); (try simp only [vC]); omega))
            | ((first | apply jj | apply jk); (iterate 2 (try (simp (disch := (first | omega | (simp only [vC]; omega))) only [push_cast, simprocAttr, takeM, dropM, zK, zA, zB, zN, zQ, zR, zO, zP, zT, zS, zU, leT, zH, hS2, hstT, hZ, q1, q2, q3, q4, q5, q6, g1, g2, natNe, zI, zG, zJ, zY, zX, zW, zE, zD, zC, isEmpty_map, zV, zM, List.length_reverse] <;> rfl))))

          all_goals (show _ = _; rw [List.take_of_length_le (by simp)])
        · have hstF : (((lkAt LK Z).a : Int) = b0) = False := eq_false hst
          rw [if_neg hst] at hp02
          repeat' first
            | apply jA | apply jB | apply jC | apply jD | apply jE | apply jF | apply jG | apply jH | apply jI | apply jJ
            | refine W.draw cx_mixed (by decide +kernel) ?_
            | ((first | (apply jK cx_ok; decide) | (apply jL cx_ok; decide; decide) | apply jR); (simp (disch := (first | omega | (simp only [vC]; omega))) only [push_cast, simprocAttr, takeM, dropM, zK, zA, zB, zN, zQ, zR, zO, zP, zT, zS, zU, leT, zH, hS2, hstF, hZ, q1, q2, q3, q4, q5, q6, g1, g2, natNe, zI, zG, zJ, zY, zX, zW, zE, zD, zC, isEmpty_map, zV, zM] <;> rfl); all_goals try ((with_reducible intro hI); try first | (cases hI; done) | (simp only [INTS, zL] at hI; try first | (exfalso; omega) | (have hT : True := hI; clear hT hI))))
            | (apply jT cx_ok; decide; rfl; rfl; rfl; decide; (iterate 3 (simp (disch := (first | omega | (simp only [vC]; omega))) only [push_cast, simprocAttr, takeM, dropM, zK, zA, zB, zN, zQ, zR, zO, zP, zT, zS, zU, leT, zH, hS2, hstF, hZ, q1, q2, q3, q4, q5, q6, g1, g2, natNe, zI, zG, zJ, zY, zX, zW, zE, zD, zC, isEmpty_map, zV, zM] <;> rfl)); (first | (focus (simp; done)) | (intro c hc; obtain ⟨x, _, rfl⟩ := List.mem_map.1 hc; rfl)); ((first | rfl | simp (disch := omega) only [push_cast])); ((try dsimp only); (try simp only [vC]); omega); ((try dsimp only); (try simp only [vC]); omega))
            | ((first | apply jj | apply jk); (iterate 2 (try (simp (disch := (first | omega | (simp only [vC]; omega))) only [push_cast, simprocAttr, takeM, dropM, zK, zA, zB, zN, zQ, zR, zO, zP, zT, zS, zU, leT, zH, hS2, hstF, hZ, q1, q2, q3, q4, q5, q6, g1, g2, natNe, zI, zG, zJ, zY, zX, zW, zE, zD, zC, isEmpty_map, zV, zM] <;> rfl))))

          all_goals (refine ⟨i2, ?_, i2, (lkAt LK Z).a, (o2 ++ [Z]), rfl, hp02, (by simp only [zE, zD, zC]; omega), ?_, ?_, ?_, ?_, ?_, ?_, ?_⟩; (omega); all_goals first | (simp (disch := omega) only [push_cast, simprocAttr, hS2, hstF, hZ, q1, q2, q3, q4, q5, q6, g1, g2, natNe, zI, zG, zJ, zY, zX, zW, zE, zD, zC, isEmpty_map, zV, zM] <;> first | rfl | omega) | omega)
      · cases hp02
  · cases ho
end Go.Proofs.Ks
