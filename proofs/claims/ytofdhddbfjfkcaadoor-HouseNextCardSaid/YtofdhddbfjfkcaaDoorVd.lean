/-
  Earliest arrivals and latest departures are adjoint; what begins later ends no earlier; a house in which more is shut. No conditions.
-/
import Derived.Test.YtofdhddbfjfkcaaDoorHc
import Derived.Test.YtofdhddbfjfkcaaDoorHe
import Derived.Test.YtofdhddbfjfkcaaDoorHf
import Derived.Test.YtofdhddbfjfkcaaDoorVc
set_option linter.unusedSimpArgs false
set_option linter.unusedVariables false
namespace Go.Proofs.Hs
open Go Go.Pg Go.Proofs Go.Proofs.Lab

theorem enter_le_iff {h : House} (hv : h.V) {g : Gate} (hg : g.OK h) {t u : Int} (h0 : 0 ≤ t) (h1 : t ≤ 1073741824) (hu0 : -1 ≤ u) (hu : u ≤ 1073741823) : enter h g t ≤ u ↔ t ≤ depart h g u := by
  have hs := hg.secs
  have hn := nextAt_ge hv hg h0 h1
  unfold enter depart
  by_cases hneg : u - g.secs < 0
  · rw [if_pos hneg]
    split <;> omega
  · rw [if_neg hneg]
    have key : h.nextAt g t ≤ u - g.secs ↔ t ≤ h.lastAt g (u - g.secs) := by
      unfold House.nextAt House.lastAt
      split
      · rename_i hd; exact next_le_iff (hv.door hd hg.door.2) h0 h1 (by omega) (by omega)
      · exact Iff.rfl
    split
    · have := lastAt_le hv hg (t := u - g.secs) (by omega)
      omega
    · rw [← key]; omega

theorem getD_lab {N : Net Gate} {row : List Int} {i : Nat} (hi : i < row.length) : N.lab row i = row.getD i 0 := by
  unfold Net.lab
  rw [List.getD_eq_getElem?_getD, List.getD_eq_getElem?_getD, List.getElem?_eq_getElem hi]; rfl

theorem arr_dep {h : House} (hv : h.V) {a b : Nat} (ha : a < h.rooms.length) (hb : b < h.rooms.length) {t u : Int} (ht : 0 ≤ t ∧ t ≤ 1073741823) (hu : 0 ≤ u ∧ u ≤ 1073741823) :
    (arrR h a t).getD b 0 ≤ u ↔ t ≤ (depR h b u).getD a 0 := by
  obtain ⟨l1, h1⟩ := arrR_is hv ha (t := t) ⟨ht.1, by omega⟩
  obtain ⟨l2, h2⟩ := depR_is hv hb (t := u) ⟨by omega, hu.2⟩
  rw [← getD_lab (N := arrN h) (by omega), ← getD_lab (N := depN h) (by omega)]
  generalize (arrN h).lab (arrR h a t) = R at *
  generalize (depN h).lab (depR h b u) = D at *
  have hDin : ∀ r, -1 ≤ D r ∧ D r ≤ 1073741823 := h2.closed.In
  have hRin : ∀ r, 0 ≤ R r ∧ R r ≤ 1073741824 := h1.closed.In
  have hDst : u ≤ D b := by have : -(D b) ≤ -u := h2.start; omega
  have hRst : R a ≤ t := h1.start
  constructor
  · intro hle
    rcases Int.lt_or_le (D a) t with hlt | hge
    · exfalso
      have hM : Closed (arrN h) (fun r => D r + 1) := by
        refine ⟨fun r => by have := hDin r; show 0 ≤ D r + 1 ∧ D r + 1 ≤ 1073741824; omega, fun g hg hl => ?_⟩
        show D g.to.toNat + 1 ≤ enter h g (D g.from'.toNat + 1)
        have hgo := gate_ok hv hg
        have hf := hDin g.from'.toNat
        have ht := hDin g.to.toNat
        have hl' : D g.from'.toNat + 1 < 1073741824 := hl
        rcases Int.lt_or_le (enter h g (D g.from'.toNat + 1)) (D g.to.toNat + 1) with hx | hx
        · exfalso
          have h3 := (enter_le_iff hv hgo (t := D g.from'.toNat + 1) (u := D g.to.toNat) (by omega) (by omega) (by omega) (by omega)).1 (by omega)
          have hto : -(D g.to.toNat) < -(-1) := by
            have := (enter_spec hv hgo (t := D g.from'.toNat + 1) (by omega) (by omega)).1
            omega
          have h4 : -(D g.from'.toNat) ≤ -(depart h g (D g.to.toNat)) := h2.closed.rel g hg hto
          omega
        · exact hx
      have := h1.most (arrN_ok hv) hM (by show D a + 1 ≤ t; omega) b
      have h5 : D b + 1 ≤ R b := this
      omega
    · exact hge
  · intro hle
    rcases Int.lt_or_le u (R b) with hlt | hge
    · exfalso
      have hM : Closed (depN h) (fun r => R r - 1) := by
        refine ⟨fun r => by have := hRin r; show -1 ≤ R r - 1 ∧ R r - 1 ≤ 1073741823; omega, fun g hg hl => ?_⟩
        show -(R g.from'.toNat - 1) ≤ -(depart h g (R g.to.toNat - 1))
        have hgo := gate_ok hv hg
        have hf := hRin g.from'.toNat
        have ht := hRin g.to.toNat
        have hl' : -(R g.to.toNat - 1) < -(-1) := hl
        rcases Int.lt_or_le (R g.from'.toNat - 1) (depart h g (R g.to.toNat - 1)) with hx | hx
        · exfalso
          have hlt : R g.from'.toNat < 1073741824 := by
            have := (depart_spec hv hgo (t := R g.to.toNat - 1) (by omega)).2
            omega
          have h3 := (enter_le_iff hv hgo (t := R g.from'.toNat) (u := R g.to.toNat - 1) (by omega) (by omega) (by omega) (by omega)).2 (by omega)
          have h4 : R g.to.toNat ≤ enter h g (R g.from'.toNat) := h1.closed.rel g hg hlt
          omega
        · omega
      have := h2.most (depN_ok hv) hM (by show -(R b - 1) ≤ -u; omega) a
      have h5 : -(R a - 1) ≤ -(D a) := this
      omega
    · exact hge

/-- What begins later arrives no earlier. -/
theorem arr_mono {h : House} (hv : h.V) {a : Nat} (ha : a < h.rooms.length) {t u : Int} (h0 : 0 ≤ t) (htu : t ≤ u) (hu : u ≤ 1073741824) (r : Nat) : (arrN h).lab (arrR h a t) r ≤ (arrN h).lab (arrR h a u) r := by
  obtain ⟨l1, h1⟩ := arrR_is hv ha (t := t) ⟨h0, by omega⟩
  obtain ⟨l2, h2⟩ := arrR_is hv ha (t := u) ⟨by omega, hu⟩
  exact h2.most (arrN_ok hv) h1.closed (by have : (arrN h).lab (arrR h a t) a ≤ t := h1.start; show (arrN h).lab (arrR h a t) a ≤ u; omega) r
theorem dep_mono {h : House} (hv : h.V) {a : Nat} (ha : a < h.rooms.length) {t u : Int} (h0 : -1 ≤ t) (htu : t ≤ u) (hu : u ≤ 1073741823) (r : Nat) : (depN h).lab (depR h a t) r ≤ (depN h).lab (depR h a u) r := by
  obtain ⟨l1, h1⟩ := depR_is hv ha (t := t) ⟨h0, by omega⟩
  obtain ⟨l2, h2⟩ := depR_is hv ha (t := u) ⟨by omega, hu⟩
  have := h1.most (depN_ok hv) h2.closed (by have : -((depN h).lab (depR h a u) a) ≤ -u := h2.start; show -((depN h).lab (depR h a u) a) ≤ -t; omega) r
  have h3 : -((depN h).lab (depR h a u) r) ≤ -((depN h).lab (depR h a t) r) := this
  omega
/-- One arrives no earlier than one begins, and is where one begins from the beginning on. -/
theorem arr_self {h : House} (hv : h.V) {a : Nat} (ha : a < h.rooms.length) {t : Int} (ht : 0 ≤ t ∧ t ≤ 1073741824) : (arrN h).lab (arrR h a t) a = t ∧ ∀ r, t ≤ (arrN h).lab (arrR h a t) r := by
  obtain ⟨l1, h1⟩ := arrR_is hv ha ht
  have hM : Closed (arrN h) (fun _ => t) := by
    refine ⟨fun _ => ht, fun g hg hl => ?_⟩
    have hl' : t < 1073741824 := hl
    have := enter_spec hv (gate_ok hv hg) ht.1 (by omega)
    show t ≤ enter h g t
    omega
  have hall : ∀ r, t ≤ (arrN h).lab (arrR h a t) r := fun r => h1.most (arrN_ok hv) hM (Int.le_refl _) r
  have : (arrN h).lab (arrR h a t) a ≤ t := h1.start
  exact ⟨by have := hall a; omega, hall⟩
theorem dep_self {h : House} (hv : h.V) {a : Nat} (ha : a < h.rooms.length) {t : Int} (ht : -1 ≤ t ∧ t ≤ 1073741823) : (depN h).lab (depR h a t) a = t ∧ ∀ r, (depN h).lab (depR h a t) r ≤ t := by
  obtain ⟨l1, h1⟩ := depR_is hv ha ht
  have hM : Closed (depN h) (fun _ => t) := by
    refine ⟨fun _ => ht, fun g hg hl => ?_⟩
    have hl' : -t < -(-1) := hl
    have := depart_spec hv (gate_ok hv hg) (t := t) (by omega)
    show -t ≤ -(depart h g t)
    omega
  have hall : ∀ r, (depN h).lab (depR h a t) r ≤ t := fun r => by
    have : -t ≤ -((depN h).lab (depR h a t) r) := h1.most (depN_ok hv) hM (Int.le_refl _) r
    omega
  have : -((depN h).lab (depR h a t) a) ≤ -t := h1.start
  exact ⟨by have := hall a; omega, hall⟩
end Go.Proofs.Hs

set_option maxHeartbeats 8000000
set_option maxRecDepth 10000
namespace Go.Proofs.Hs
open Go Go.Pg Go.Proofs

open Lab in
theorem isWall_iff {h : House} (hv : h.V) {a ta b tb : Int} {l : List Int} (ha : 0 ≤ a ∧ a < (h.rooms.length : Int)) (hb : 0 ≤ b ∧ b < (h.rooms.length : Int)) :
    isWall h a ta b tb l = true ↔ l.length = h.rooms.length ∧ Closed (arrN h) ((arrN h).lab l) ∧ (arrN h).lab l a.toNat ≤ ta ∧ tb < (arrN h).lab l b.toNat := by
  by_cases hl : l.length = h.rooms.length
  · have e1 : (arrN h).lab l a.toNat = l.getD a.toNat 0 := getD_lab (by omega)
    have e2 : (arrN h).lab l b.toNat = l.getD b.toNat 0 := getD_lab (by omega)
    have e3 : ∀ g ∈ gates h, (arrN h).lab l g.from'.toNat = l.getD g.from'.toNat 0 ∧ (arrN h).lab l g.to.toNat = l.getD g.to.toNat 0 := fun g hg => by
      have hgo := gate_ok hv hg
      have h1 := hgo.from'
      have h2 := hgo.to
      exact ⟨getD_lab (by omega), getD_lab (by omega)⟩
    simp only [isWall, Bool.and_eq_true, decide_eq_true_eq, List.all_eq_true, neverB, e1, e2, hl, true_and]
    constructor
    · rintro ⟨hin, hs, he, hg⟩
      refine ⟨⟨lab_in (arrN_ok hv) (fun x hx => hin x hx), fun g hgg hlt => ?_⟩, hs, he⟩
      obtain ⟨f1, f2⟩ := e3 g hgg
      have hin' := lab_in (arrN_ok hv) (row := l) (fun x hx => hin x hx)
      have hf := hg g hgg
      have i1 : 0 ≤ l.getD g.from'.toNat 0 := by have := (hin' g.from'.toNat).1; rw [f1] at this; exact this
      change (arrN h).lab l g.to.toNat ≤ enter h g ((arrN h).lab l g.from'.toNat)
      change (arrN h).lab l g.from'.toNat < 1073741824 at hlt
      rw [f1] at hlt
      rw [f1, f2]
      simp only [fineG, timeB, Bool.not_eq_true', Bool.and_eq_false_iff, decide_eq_false_iff_not] at hf
      omega
    · rintro ⟨hc, hs, he⟩
      refine ⟨fun x hx => ?_, hs, he, fun g hgg => ?_⟩
      · obtain ⟨i, hi, rfl⟩ := List.getElem_of_mem hx
        have := hc.In i
        have e4 : (arrN h).lab l i = l[i] := by rw [getD_lab hi, List.getD_eq_getElem?_getD, List.getElem?_eq_getElem hi]; rfl
        rw [e4] at this
        exact this
      · obtain ⟨f1, f2⟩ := e3 g hgg
        have hr := hc.rel g hgg
        change (arrN h).lab l g.from'.toNat < 1073741824 → (arrN h).lab l g.to.toNat ≤ enter h g ((arrN h).lab l g.from'.toNat) at hr
        rw [f1, f2] at hr
        simp only [fineG, timeB, Bool.not_eq_true', Bool.and_eq_false_iff, decide_eq_false_iff_not]
        omega
  · constructor
    · intro h1
      simp only [isWall, Bool.and_eq_true, decide_eq_true_eq] at h1
      exact absurd h1.1 hl
    · exact fun h1 => absurd h1.1 hl
theorem wall_true {h : House} (hv : h.V) {a ta b tb : Int} (ha : 0 ≤ a ∧ a < (h.rooms.length : Int)) (hb : 0 ≤ b ∧ b < (h.rooms.length : Int)) (ht : 0 ≤ ta ∧ ta ≤ 1073741823) (hgt : ¬ (arrH h a.toNat ta).1.getD b.toNat 0 ≤ tb) :
    isWall h a ta b tb (arrH h a.toNat ta).1 = true := by
  rw [arrH_eq hv ha ht] at hgt ⊢
  obtain ⟨hl, hi⟩ := arrR_is hv (a := a.toNat) (by omega) (t := ta) (by omega)
  exact (isWall_iff hv ha hb).2 ⟨hl, hi.closed, hi.start, by rw [getD_lab (by omega)]; omega⟩
theorem law6_ok (h : House) (a ta b tb : Int) (hn : ∀ r ∈ h.rooms, r.name.size ≤ 9223372036854775807) : OKv cx 6 [.agg (eHouse h), ai a, ai ta, ai b, ai tb] (ab true) := by
  by_cases hf : few h = true
  · have hfit := few_fit hf hn
    have hrl := hfit.rooms
    by_cases he : askedE h [a, b] [ta, tb] = 0
    · obtain ⟨hc, hra, hrb, hta, htb⟩ := askedE_two_zero he
      have hv := Check_V hc
      by_cases hle : (arrH h a.toNat ta).1.getD b.toNat 0 ≤ tb
      · have hW : wallH h a ta b tb = ([], 5) := by unfold wallH; rw [if_neg (by simp [he]), if_pos hle]
        have hC : canH h a ta b tb = (true, 0) := by unfold canH; rw [if_neg (by simp [he])]; simp only [hle, decide_true]
        refine OKat.of_body (rs := [10]) Tryd.func6 rfl (by decide +kernel) rfl (by simp [Tryd.ntmps6]) ?_
        simp only [Tryd.ntmps6]
        repeat' first
          | apply AW.seq | apply AW.region | apply AW.ret | apply AW.block | apply AW.skip | apply AW.exit | apply AW.scope | apply AW.label | apply AWL.nil
          | ((first | (apply W.step cx_ok; decide) | (apply W.gS; rfl; decide) | apply AW.cond); (simp (disch := omega) only [push_cast, simprocAttr, hf, hW, hC] <;> rfl); all_goals try ((with_reducible intro hI); try first | (cases hI; done) | (simp only [INTS] at hI; try first | (exfalso; omega) | (have hT : True := hI; clear hT hI))))
          | ((apply W.callv cx_ok; decide); (iterate 2 (simp (disch := omega) only [push_cast, simprocAttr, hf, hW, hC] <;> rfl)); (with_reducible first | exact few_ok _ | exact sanity_ok | exact Wall_ok _ _ _ _ _ hfit | exact CanR_ok _ _ _ _ _ hfit); try first | rfl | (simp (disch := omega) only [push_cast, simprocAttr, hf, hW, hC] <;> rfl))
          | ((first | apply W.ret1 | apply W.end1); (iterate 2 (try (simp (disch := omega) only [push_cast, simprocAttr, hf, hW, hC] <;> rfl))))
        all_goals (show _ = _; first | rfl | (simp_all; done))
      · have hW : wallH h a ta b tb = ((arrH h a.toNat ta).1, 0) := by unfold wallH; rw [if_neg (by simp [he]), if_neg hle]
        have hC : canH h a ta b tb = (false, 0) := by unfold canH; rw [if_neg (by simp [he])]; simp only [hle, decide_false]
        have hI : isWall h a ta b tb (arrH h a.toNat ta).1 = true := wall_true hv hra hrb hta hle
        have hCW : checkWallH h a ta b tb (arrH h a.toNat ta).1 = 0 := by unfold checkWallH; rw [if_neg (by simp [he]), if_pos hI]
        have hll : (arrH h a.toNat ta).1.length ≤ 1099511627776 := by rw [(arrH_len h a.toNat ta).1]; omega
        have hIW := hI
        clear hI
        refine OKat.of_body (rs := [10]) Tryd.func6 rfl (by decide +kernel) rfl (by simp [Tryd.ntmps6]) ?_
        simp only [Tryd.ntmps6]
        repeat' first
          | apply AW.seq | apply AW.region | apply AW.ret | apply AW.block | apply AW.skip | apply AW.exit | apply AW.scope | apply AW.label | apply AWL.nil
          | ((first | (apply W.step cx_ok; decide) | (apply W.gS; rfl; decide) | apply AW.cond); (simp (disch := omega) only [push_cast, simprocAttr, hf, hW, hC, hIW, hCW] <;> rfl); all_goals try ((with_reducible intro hI); try first | (cases hI; done) | (simp only [INTS] at hI; try first | (exfalso; omega) | (have hT : True := hI; clear hT hI))))
          | ((apply W.callv cx_ok; decide); (iterate 2 (simp (disch := omega) only [push_cast, simprocAttr, hf, hW, hC, hIW, hCW] <;> rfl)); (with_reducible first | exact few_ok _ | exact sanity_ok | exact Wall_ok _ _ _ _ _ hfit | exact CanR_ok _ _ _ _ _ hfit | exact IsWallR_ok _ _ _ _ _ _ hfit hv hra hrb hll | exact CheckWall_ok _ _ _ _ _ _ hfit hll); try first | rfl | (simp (disch := omega) only [push_cast, simprocAttr, hf, hW, hC, hIW, hCW] <;> rfl))
          | ((first | apply W.ret1 | apply W.end1); (iterate 2 (try (simp (disch := omega) only [push_cast, simprocAttr, hf, hW, hC, hIW, hCW] <;> rfl))))
        all_goals (show _ = _; first | rfl | (simp_all; done))
    · have hW : wallH h a ta b tb = ([], askedE h [a, b] [ta, tb]) := by unfold wallH; rw [if_pos he]
      have hC : canH h a ta b tb = (false, askedE h [a, b] [ta, tb]) := by unfold canH; rw [if_pos he]
      refine OKat.of_body (rs := [10]) Tryd.func6 rfl (by decide +kernel) rfl (by simp [Tryd.ntmps6]) ?_
      simp only [Tryd.ntmps6]
      repeat' first
        | apply AW.seq | apply AW.region | apply AW.ret | apply AW.block | apply AW.skip | apply AW.exit | apply AW.scope | apply AW.label | apply AWL.nil
        | ((first | (apply W.step cx_ok; decide) | (apply W.gS; rfl; decide) | apply AW.cond); (simp (disch := omega) only [push_cast, simprocAttr, hf, hW, hC, he] <;> rfl); all_goals try ((with_reducible intro hI); try first | (cases hI; done) | (simp only [INTS] at hI; try first | (exfalso; omega) | (have hT : True := hI; clear hT hI))))
        | ((apply W.callv cx_ok; decide); (iterate 2 (simp (disch := omega) only [push_cast, simprocAttr, hf, hW, hC, he] <;> rfl)); (with_reducible first | exact few_ok _ | exact sanity_ok | exact Wall_ok _ _ _ _ _ hfit | exact CanR_ok _ _ _ _ _ hfit); try first | rfl | (simp (disch := omega) only [push_cast, simprocAttr, hf, hW, hC, he] <;> rfl))
        | ((first | apply W.ret1 | apply W.end1); (iterate 2 (try (simp (disch := omega) only [push_cast, simprocAttr, hf, hW, hC, he] <;> rfl))))
      all_goals (show _ = _; first | rfl | (simp_all; done))
  · have hf' : few h = false := by simpa using hf
    refine OKat.of_body (rs := [10]) Tryd.func6 rfl (by decide +kernel) rfl (by simp [Tryd.ntmps6]) ?_
    simp only [Tryd.ntmps6]
    repeat' first
      | apply AW.seq | apply AW.region | apply AW.ret | apply AW.block | apply AW.skip | apply AW.exit | apply AW.scope | apply AW.label | apply AWL.nil
      | ((first | (apply W.step cx_ok; decide) | (apply W.gS; rfl; decide) | apply AW.cond); (simp (disch := omega) only [push_cast, simprocAttr, hf'] <;> rfl); all_goals try ((with_reducible intro hI); try first | (cases hI; done) | (simp only [INTS] at hI; try first | (exfalso; omega) | (have hT : True := hI; clear hT hI))))
      | ((apply W.callv cx_ok; decide); (iterate 2 (simp (disch := omega) only [push_cast, simprocAttr, hf'] <;> rfl)); (with_reducible first | exact few_ok _ | exact sanity_ok); try first | rfl | (simp (disch := omega) only [push_cast, simprocAttr, hf'] <;> rfl))
      | ((first | apply W.ret1 | apply W.end1); (iterate 2 (try (simp (disch := omega) only [push_cast, simprocAttr, hf'] <;> rfl))))
    all_goals (show _ = _; first | rfl | (simp_all; done))

end Go.Proofs.Hs
