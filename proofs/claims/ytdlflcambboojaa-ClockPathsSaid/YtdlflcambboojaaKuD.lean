/-
  Contracts of functions, proved by going through their code. No conditions.
-/
import Derived.Test.YtdlflcambboojaaKaa
import Derived.Test.YtdlflcambboojaaKbc
import Derived.Test.YtdlflcambboojaaKbd
import Derived.Test.YtdlflcambboojaaKtZ
set_option linter.unusedVariables false
set_option linter.unusedSimpArgs false
set_option maxHeartbeats 8000000
set_option maxRecDepth 10000
namespace Go.Proofs.Ks
open Go Go.Pg Go.Proofs
def rwalkF (RES : Int × Int × Bool) : Int × Int := if RES.2.2 = true then (RES.1, RES.2.1) else (-1, 0)
theorem RWalk_ok (r : Rec) (hv : r.V) (l : List Int) (f0 : Int) (hl : l.length ≤ 1000) : OKv cx 75 [.agg (eRec r), ai f0, lInt l] (.tup [ai (rwalkF (walkF (linksR r []) l f0 0)).1, ai (rwalkF (walkF (linksR r []) l f0 0)).2]) := by
  obtain ⟨_, hL, _, hm, _⟩ := links_facts (more := []) hv (by decide) nomore
  have c43 := rLinks_ok r hv
  obtain ⟨LK, hLK⟩ : ∃ z, linksR r [] = z := ⟨_, rfl⟩
  rw [hLK] at hL hm c43 ⊢
  obtain ⟨RES, hRES⟩ : ∃ z, walkF LK l f0 0 = z := ⟨_, rfl⟩
  rw [hRES]
  refine OKat.of_body (rs := [6, 7]) Try.func75 rfl (by decide +kernel) rfl (by simp [Try.ntmps75]) ?_
  simp only [Try.ntmps75]
  repeat' first
    | apply jA | apply jB | apply jC | apply jD | apply jE | apply jF | apply jG | apply jH | apply jI
    | ((first | (apply jK cx_ok; decide) | (apply jN; rfl; decide) | apply jR); (simp (disch := omega) only [push_cast, simprocAttr] <;> rfl); all_goals try ((with_reducible intro hI); try first | (cases hI; done) | (simp only [INTS, zL] at hI; try first | (exfalso; omega) | (have hT : True := hI; clear hT hI))))
    | ((apply jV cx_ok; decide); (iterate 2 (simp (disch := omega) only [push_cast, simprocAttr] <;> rfl)); (with_reducible first | exact c43); try first | rfl | (simp (disch := omega) only [push_cast, simprocAttr] <;> rfl))
    | ((first | apply jh | apply ji); (iterate 2 (try (simp (disch := omega) only [push_cast, simprocAttr] <;> rfl))))

  refine AW.loop (fun n s => ∃ (k : Nat) (f u : Int) (rest : List Int), n = rest.length ∧ (l.drop k = rest) ∧ (walkF LK rest f u = RES) ∧ (-1073741823 * (k : Int) ≤ u ∧ u ≤ 1073741823 * (k : Int)) ∧ (k ≤ l.length) ∧ s.tm 1 = ai f ∧ s.tm 2 = lInt l ∧ s.tm 8 = lLink LK ∧ s.tm 9 = ai u ∧ s.tm 10 = ai k) (l.length) ⟨0, f0, 0, l, rfl, rfl, hRES, (by omega), (Nat.zero_le _), ?_, ?_, ?_, ?_, ?_⟩ ?_
  iterate 5 (first | (simp (disch := omega) only [push_cast, simprocAttr] <;> first | rfl | omega) | omega)
  rintro n s ⟨k, f, u, rest, hn, hp0, hp1, hp2, hp3, hS⟩
  rcases rest with _ | ⟨x, rest⟩
  · have hk := drop_nil hp0
    unfold walkF at hp1
    subst hp1
    repeat' first
      | apply jA | apply jB | apply jC | apply jD | apply jE | apply jF | apply jG | apply jH | apply jI
      | ((first | (apply jK cx_ok; decide) | (apply jN; rfl; decide) | apply jR); (simp (disch := omega) only [push_cast, simprocAttr, hS, hk] <;> rfl); all_goals try ((with_reducible intro hI); try first | (cases hI; done) | (simp only [INTS, zL] at hI; try first | (exfalso; omega) | (have hT : True := hI; clear hT hI))))
      | ((first | apply jh | apply ji); (iterate 2 (try (simp (disch := omega) only [push_cast, simprocAttr, hS, hk] <;> rfl))))

    all_goals (show _ = _; rfl)
  · obtain ⟨hk, hg, hd', hl', hmx, hx⟩ := drop_cons hp0 eInt []
    unfold walkF at hp1
    by_cases h0 : 0 ≤ x ∧ x < (LK.length : Int)
    · obtain ⟨g1, g2, g3⟩ := lkAt_get h0
      obtain ⟨m1, m2⟩ := hm _ g3
      obtain ⟨Y, hY⟩ : ∃ z, lkAt LK x = z := ⟨_, rfl⟩
      rw [hY] at g1 g2 g3 m1 m2 hp1
      obtain ⟨x0, x1⟩ := h0
      by_cases ha : (Y.a : Int) = f
      · have haT : ((Y.a : Int) = f) = True := eq_true ha
        rw [if_pos ⟨⟨x0, x1⟩, ha⟩] at hp1
        repeat' first
          | apply jA | apply jB | apply jC | apply jD | apply jE | apply jF | apply jG | apply jH | apply jI
          | ((first | (apply jK cx_ok; decide) | (apply jN; rfl; decide) | apply jR); (simp (disch := omega) only [push_cast, simprocAttr, hS, hk, hg, hx, x0, x1, g1, g2, haT] <;> rfl); all_goals try ((with_reducible intro hI); try first | (cases hI; done) | (simp only [INTS, zL] at hI; try first | (exfalso; omega) | (have hT : True := hI; clear hT hI))))
          | ((first | apply jh | apply ji); (iterate 2 (try (simp (disch := omega) only [push_cast, simprocAttr, hS, hk, hg, hx, x0, x1, g1, g2, haT] <;> rfl))))

        all_goals (refine ⟨rest.length, ?_, k + 1, Y.b, u + Y.m, rest, rfl, hd', hp1, (by omega), (by omega), ?_, ?_, ?_, ?_, ?_⟩; ((simp only [zD] at *; omega)); all_goals first | (simp (disch := omega) only [push_cast, simprocAttr, hS, hk, hg, hx, x0, x1, g1, g2, haT] <;> first | rfl | omega) | omega)
      · have haF : ((Y.a : Int) = f) = False := eq_false ha
        rw [if_neg (fun h => ha h.2)] at hp1
        subst hp1
        repeat' first
          | apply jA | apply jB | apply jC | apply jD | apply jE | apply jF | apply jG | apply jH | apply jI
          | ((first | (apply jK cx_ok; decide) | (apply jN; rfl; decide) | apply jR); (simp (disch := omega) only [push_cast, simprocAttr, hS, hk, hg, hx, x0, x1, g1, g2, haF] <;> rfl); all_goals try ((with_reducible intro hI); try first | (cases hI; done) | (simp only [INTS, zL] at hI; try first | (exfalso; omega) | (have hT : True := hI; clear hT hI))))
          | ((first | apply jh | apply ji); (iterate 2 (try (simp (disch := omega) only [push_cast, simprocAttr, hS, hk, hg, hx, x0, x1, g1, g2, haF] <;> rfl))))

        all_goals (show _ = _; rfl)
    · rw [if_neg (fun h => h0 h.1)] at hp1
      subst hp1
      by_cases x0 : 0 ≤ x
      · have x1 : (LK.length : Int) ≤ x := by omega
        repeat' first
          | apply jA | apply jB | apply jC | apply jD | apply jE | apply jF | apply jG | apply jH | apply jI
          | ((first | (apply jK cx_ok; decide) | (apply jN; rfl; decide) | apply jR); (simp (disch := omega) only [push_cast, simprocAttr, hS, hk, hg, hx, x0, x1] <;> rfl); all_goals try ((with_reducible intro hI); try first | (cases hI; done) | (simp only [INTS, zL] at hI; try first | (exfalso; omega) | (have hT : True := hI; clear hT hI))))
          | ((first | apply jh | apply ji); (iterate 2 (try (simp (disch := omega) only [push_cast, simprocAttr, hS, hk, hg, hx, x0, x1] <;> rfl))))

        all_goals (show _ = _; rfl)
      · have x1 : x < 0 := by omega
        repeat' first
          | apply jA | apply jB | apply jC | apply jD | apply jE | apply jF | apply jG | apply jH | apply jI
          | ((first | (apply jK cx_ok; decide) | (apply jN; rfl; decide) | apply jR); (simp (disch := omega) only [push_cast, simprocAttr, hS, hk, hg, hx, x1] <;> rfl); all_goals try ((with_reducible intro hI); try first | (cases hI; done) | (simp only [INTS, zL] at hI; try first | (exfalso; omega) | (have hT : True := hI; clear hT hI))))
          | ((first | apply jh | apply ji); (iterate 2 (try (simp (disch := omega) only [push_cast, simprocAttr, hS, hk, hg, hx, x1] <;> rfl))))

        all_goals (show _ = _; rfl)
theorem RSimple_ok (r : Rec) (hv : r.V) (l : List Int) (hll : l.length ≤ 1000) (hin : ∀ k ∈ l, 0 ≤ k ∧ k < ((linksR r []).length : Int)) (hnd : (l.map fun k => (lkAt (linksR r []) k).b).Nodup) : OKv cx 31 [.agg (eRec r), lInt l] (ab true) := by
  obtain ⟨_, hL, _, hm, _⟩ := links_facts (more := []) hv (by decide) nomore
  have c43 := rLinks_ok r hv
  obtain ⟨LK, hLK⟩ : ∃ z, linksR r [] = z := ⟨_, rfl⟩
  rw [hLK] at hin hnd c43 hL
  refine OKat.of_body (rs := [4]) Try.func31 rfl (by decide +kernel) rfl (by simp [Try.ntmps31]) ?_
  simp only [Try.ntmps31]
  repeat' first
    | apply jA | apply jB | apply jC | apply jD | apply jE | apply jF | apply jG | apply jH | apply jI | apply jJ
    | refine W.draw cx_mixed (by decide +kernel) ?_
    | ((first | (apply jK cx_ok; decide) | (apply jL cx_ok; decide; decide) | apply jR); (simp (disch := omega) only [push_cast, simprocAttr] <;> rfl); all_goals try ((with_reducible intro hI); try first | (cases hI; done) | (simp only [INTS, zL] at hI; try first | (exfalso; omega) | (have hT : True := hI; clear hT hI))))
    | ((first | (apply jV cx_ok; decide) | (apply jW cx_ok; decide; decide)); (iterate 2 (simp (disch := omega) only [push_cast, simprocAttr] <;> rfl)); (with_reducible first | exact c43); try first | rfl | (simp (disch := omega) only [push_cast, simprocAttr] <;> rfl))
    | ((first | apply jf | apply jg); (iterate 2 (try (simp (disch := omega) only [push_cast, simprocAttr] <;> rfl))))

  refine AW.loop (fun n s => ∃ (k : Nat), n = l.length - k ∧ (k ≤ l.length) ∧ s.tm 1 = lInt l ∧ s.tm 5 = lLink LK ∧ s.tm 6 = ai k) (l.length) ⟨0, rfl, (Nat.zero_le _), ?_, ?_, ?_⟩ ?_
  iterate 3 (first | (simp (disch := omega) only [push_cast, simprocAttr] <;> first | rfl | omega) | omega)
  rintro n0 s0 ⟨k0, hn0, hp00, hS0⟩
  by_cases hk : k0 < l.length
  rotate_left
  · have hi : ¬ (k0 : Int) < (l.length : Int) := by omega
    repeat' first
      | apply jA | apply jB | apply jC | apply jD | apply jE | apply jF | apply jG | apply jH | apply jI | apply jJ
      | refine W.draw cx_mixed (by decide +kernel) ?_
      | ((first | (apply jK cx_ok; decide) | (apply jL cx_ok; decide; decide) | apply jR); (simp (disch := omega) only [push_cast, simprocAttr, hS0, hi] <;> rfl); all_goals try ((with_reducible intro hI); try first | (cases hI; done) | (simp only [INTS, zL] at hI; try first | (exfalso; omega) | (have hT : True := hI; clear hT hI))))
      | ((first | apply jf | apply jg); (iterate 2 (try (simp (disch := omega) only [push_cast, simprocAttr, hS0, hi] <;> rfl))))

    all_goals (show _ = _; rfl)
  have hi : (k0 : Int) < (l.length : Int) := by omega
  repeat' first
    | apply jA | apply jB | apply jC | apply jD | apply jE | apply jF | apply jG | apply jH | apply jI | apply jJ
    | refine W.draw cx_mixed (by decide +kernel) ?_
    | ((first | (apply jK cx_ok; decide) | (apply jL cx_ok; decide; decide) | apply jR); (simp (disch := omega) only [push_cast, simprocAttr, hS0, hi] <;> rfl); all_goals try ((with_reducible intro hI); try first | (cases hI; done) | (simp only [INTS, zL] at hI; try first | (exfalso; omega) | (have hT : True := hI; clear hT hI))))
    | ((first | apply jf | apply jg); (iterate 2 (try (simp (disch := omega) only [push_cast, simprocAttr, hS0, hi] <;> rfl))))

  refine AW.loop (fun n s => ∃ (j : Nat), n = k0 - j ∧ (j ≤ k0) ∧ s.tm 1 = lInt l ∧ s.tm 5 = lLink LK ∧ s.tm 6 = ai k0 ∧ s.tm 7 = ai j) (k0) ⟨0, rfl, (Nat.zero_le _), ?_, ?_, ?_, ?_⟩ ?_
  iterate 4 (first | (simp (disch := omega) only [push_cast, simprocAttr, hS0, hi] <;> first | rfl | omega) | omega)
  rintro n2 s2 ⟨j2, hn2, hp02, hS2⟩
  by_cases hk2 : j2 < k0
  · have hj : (j2 : Int) < (k0 : Int) := by omega
    have hjl : (j2 : Int) < (l.length : Int) := by omega
    obtain ⟨y1, y2, y3⟩ := getI (ts := l) (i := k0) hk
    obtain ⟨z1, z2, z3⟩ := getI (ts := l) (i := j2) (by omega)
    have hb := hin _ y3
    have hc := hin _ z3
    obtain ⟨p1, p2, _⟩ := lkAt_get hb
    obtain ⟨q1, q2, _⟩ := lkAt_get hc
    have hne0 : ¬ (lkAt LK (l.getD k0 0)).b = (lkAt LK (l.getD j2 0)).b := fun e => by
      have hn := List.pairwise_iff_getElem.1 hnd j2 k0 (by rw [List.length_map]; omega) (by rw [List.length_map]; exact hk) hk2
      rw [List.getElem_map, List.getElem_map] at hn
      rw [List.getD_eq_getElem?_getD, List.getD_eq_getElem?_getD, List.getElem?_eq_getElem hk, List.getElem?_eq_getElem (show j2 < l.length by omega)] at e
      exact hn e.symm
    obtain ⟨U, hU⟩ : ∃ z, l.getD k0 0 = z := ⟨_, rfl⟩
    obtain ⟨V, hV⟩ : ∃ z, l.getD j2 0 = z := ⟨_, rfl⟩
    rw [hU] at y1 y2 hb p1 p2 hne0
    rw [hV] at z1 z2 hc q1 q2 hne0
    obtain ⟨X, hX⟩ : ∃ z, lkAt LK U = z := ⟨_, rfl⟩
    obtain ⟨Y, hY⟩ : ∃ z, lkAt LK V = z := ⟨_, rfl⟩
    rw [hX] at p1 p2 hne0
    rw [hY] at q1 q2 hne0
    obtain ⟨b1, b2⟩ := hb
    obtain ⟨b3, b4⟩ := hc
    have hne : ((X.b : Int) = (Y.b : Int)) = False := eq_false (by omega)
    repeat' first
      | apply jA | apply jB | apply jC | apply jD | apply jE | apply jF | apply jG | apply jH | apply jI | apply jJ
      | refine W.draw cx_mixed (by decide +kernel) ?_
      | ((first | (apply jK cx_ok; decide) | (apply jL cx_ok; decide; decide) | apply jR); (simp (disch := omega) only [push_cast, simprocAttr, hS2, hi, hj, y1, y2, z1, z2, p1, p2, q1, q2, b1, b2, b3, b4, hne, hjl] <;> rfl); all_goals try ((with_reducible intro hI); try first | (cases hI; done) | (simp only [INTS, zL] at hI; try first | (exfalso; omega) | (have hT : True := hI; clear hT hI))))
      | ((first | apply jf | apply jg); (iterate 2 (try (simp (disch := omega) only [push_cast, simprocAttr, hS2, hi, hj, y1, y2, z1, z2, p1, p2, q1, q2, b1, b2, b3, b4, hne, hjl] <;> rfl))))

    all_goals (refine ⟨k0 - (j2 + 1), ?_, j2 + 1, rfl, (by omega), ?_, ?_, ?_, ?_⟩; (omega); all_goals first | (simp (disch := omega) only [push_cast, simprocAttr, hS2, hi, hj, y1, y2, z1, z2, p1, p2, q1, q2, b1, b2, b3, b4, hne, hjl] <;> first | rfl | omega) | omega)
  have hj : ¬ (j2 : Int) < (k0 : Int) := by omega
  repeat' first
    | apply jA | apply jB | apply jC | apply jD | apply jE | apply jF | apply jG | apply jH | apply jI | apply jJ
    | refine W.draw cx_mixed (by decide +kernel) ?_
    | ((first | (apply jK cx_ok; decide) | (apply jL cx_ok; decide; decide) | apply jR); (simp (disch := omega) only [push_cast, simprocAttr, hS2, hi, hj] <;> rfl); all_goals try ((with_reducible intro hI); try first | (cases hI; done) | (simp only [INTS, zL] at hI; try first | (exfalso; omega) | (have hT : True := hI; clear hT hI))))
    | ((first | apply jf | apply jg); (iterate 2 (try (simp (disch := omega) only [push_cast, simprocAttr, hS2, hi, hj] <;> rfl))))

  all_goals (refine ⟨l.length - (k0 + 1), ?_, k0 + 1, rfl, (by omega), ?_, ?_, ?_⟩; (omega); all_goals first | (simp (disch := omega) only [push_cast, simprocAttr, hS0, hi, hj, hS2] <;> first | rfl | omega) | omega)
end Go.Proofs.Ks
