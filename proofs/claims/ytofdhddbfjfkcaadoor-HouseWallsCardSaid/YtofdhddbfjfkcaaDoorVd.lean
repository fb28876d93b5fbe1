/-
  Earliest arrivals and latest departures are adjoint; what begins later ends no earlier; a house in which more is shut. No conditions.
-/
import Derived.Test.YtofdhddbfjfkcaaDoorHc
import Derived.Test.YtofdhddbfjfkcaaDoorHe
import Derived.Test.YtofdhddbfjfkcaaDoorHf
import Derived.Test.YtofdhddbfjfkcaaDoorVa
import Derived.Test.YtofdhddbfjfkcaaDoorVc
set_option linter.unusedSimpArgs false
set_option linter.unusedVariables false
namespace Go.Proofs.Hs
open Go Go.Pg Go.Proofs Go.Proofs.Lab

theorem enter_le_iff {h : House} (hv : h.V) {g : Gate} (hg : g.OK h) {t u : Int} (h0 : 0 ≤ t) (h1 : t ≤ 1073741824) (hu0 : -1 ≤ u) (hu : u ≤ 1073741823) : enter h g t ≤ u ↔ t ≤ depart h g u := by
  have hs := hg.secs
  have hn := nextAt_ge hv hg h0 h1
  unfold enter depart
  by_cases hneg : u - g.secs < 0
  · rw [if_pos hneg]
    split <;> omega
  · rw [if_neg hneg]
    have key : h.nextAt g t ≤ u - g.secs ↔ t ≤ h.lastAt g (u - g.secs) := by
      unfold House.nextAt House.lastAt
      split
      · rename_i hd; exact next_le_iff (hv.door hd hg.door.2) h0 h1 (by omega) (by omega)
      · exact Iff.rfl
    split
    · have := lastAt_le hv hg (t := u - g.secs) (by omega)
      omega
    · rw [← key]; omega

theorem getD_lab {N : Net Gate} {row : List Int} {i : Nat} (hi : i < row.length) : N.lab row i = row.getD i 0 := by
  unfold Net.lab
  rw [List.getD_eq_getElem?_getD, List.getD_eq_getElem?_getD, List.getElem?_eq_getElem hi]; rfl

theorem arr_dep {h : House} (hv : h.V) {a b : Nat} (ha : a < h.rooms.length) (hb : b < h.rooms.length) {t u : Int} (ht : 0 ≤ t ∧ t ≤ 1073741823) (hu : 0 ≤ u ∧ u ≤ 1073741823) :
    (arrR h a t).getD b 0 ≤ u ↔ t ≤ (depR h b u).getD a 0 := by
  obtain ⟨l1, h1⟩ := arrR_is hv ha (t := t) ⟨ht.1, by omega⟩
  obtain ⟨l2, h2⟩ := depR_is hv hb (t := u) ⟨by omega, hu.2⟩
  rw [← getD_lab (N := arrN h) (by omega), ← getD_lab (N := depN h) (by omega)]
  generalize (arrN h).lab (arrR h a t) = R at *
  generalize (depN h).lab (depR h b u) = D at *
  have hDin : ∀ r, -1 ≤ D r ∧ D r ≤ 1073741823 := h2.closed.In
  have hRin : ∀ r, 0 ≤ R r ∧ R r ≤ 1073741824 := h1.closed.In
  have hDst : u ≤ D b := by have : -(D b) ≤ -u := h2.start; omega
  have hRst : R a ≤ t := h1.start
  constructor
  · intro hle
    rcases Int.lt_or_le (D a) t with hlt | hge
    · exfalso
      have hM : Closed (arrN h) (fun r => D r + 1) := by
        refine ⟨fun r => by have := hDin r; show 0 ≤ D r + 1 ∧ D r + 1 ≤ 1073741824; omega, fun g hg hl => ?_⟩
        show D g.to.toNat + 1 ≤ enter h g (D g.from'.toNat + 1)
        have hgo := gate_ok hv hg
        have hf := hDin g.from'.toNat
        have ht := hDin g.to.toNat
        have hl' : D g.from'.toNat + 1 < 1073741824 := hl
        rcases Int.lt_or_le (enter h g (D g.from'.toNat + 1)) (D g.to.toNat + 1) with hx | hx
        · exfalso
          have h3 := (enter_le_iff hv hgo (t := D g.from'.toNat + 1) (u := D g.to.toNat) (by omega) (by omega) (by omega) (by omega)).1 (by omega)
          have hto : -(D g.to.toNat) < -(-1) := by
            have := (enter_spec hv hgo (t := D g.from'.toNat + 1) (by omega) (by omega)).1
            omega
          have h4 : -(D g.from'.toNat) ≤ -(depart h g (D g.to.toNat)) := h2.closed.rel g hg hto
          omega
        · exact hx
      have := h1.most (arrN_ok hv) hM (by show D a + 1 ≤ t; omega) b
      have h5 : D b + 1 ≤ R b := this
      omega
    · exact hge
  · intro hle
    rcases Int.lt_or_le u (R b) with hlt | hge
    · exfalso
      have hM : Closed (depN h) (fun r => R r - 1) := by
        refine ⟨fun r => by have := hRin r; show -1 ≤ R r - 1 ∧ R r - 1 ≤ 1073741823; omega, fun g hg hl => ?_⟩
        show -(R g.from'.toNat - 1) ≤ -(depart h g (R g.to.toNat - 1))
        have hgo := gate_ok hv hg
        have hf := hRin g.from'.toNat
        have ht := hRin g.to.toNat
        have hl' : -(R g.to.toNat - 1) < -(-1) := hl
        rcases Int.lt_or_le (R g.from'.toNat - 1) (depart h g (R g.to.toNat - 1)) with hx | hx
        · exfalso
          have hlt : R g.from'.toNat < 1073741824 := by
            have := (depart_spec hv hgo (t := R g.to.toNat - 1) (by omega)).2
            omega
          have h3 := (enter_le_iff hv hgo (t := R g.from'.toNat) (u := R g.to.toNat - 1) (by omega) (by omega) (by omega) (by omega)).2 (by omega)
          have h4 : R g.to.toNat ≤ enter h g (R g.from'.toNat) := h1.closed.rel g hg hlt
          omega
        · omega
      have := h2.most (depN_ok hv) hM (by show -(R b - 1) ≤ -u; omega) a
      have h5 : -(R a - 1) ≤ -(D a) := this
      omega
    · exact hge

/-- What begins later arrives no earlier. -/
theorem arr_mono {h : House} (hv : h.V) {a : Nat} (ha : a < h.rooms.length) {t u : Int} (h0 : 0 ≤ t) (htu : t ≤ u) (hu : u ≤ 1073741824) (r : Nat) : (arrN h).lab (arrR h a t) r ≤ (arrN h).lab (arrR h a u) r := by
  obtain ⟨l1, h1⟩ := arrR_is hv ha (t := t) ⟨h0, by omega⟩
  obtain ⟨l2, h2⟩ := arrR_is hv ha (t := u) ⟨by omega, hu⟩
  exact h2.most (arrN_ok hv) h1.closed (by have : (arrN h).lab (arrR h a t) a ≤ t := h1.start; show (arrN h).lab (arrR h a t) a ≤ u; omega) r
theorem dep_mono {h : House} (hv : h.V) {a : Nat} (ha : a < h.rooms.length) {t u : Int} (h0 : -1 ≤ t) (htu : t ≤ u) (hu : u ≤ 1073741823) (r : Nat) : (depN h).lab (depR h a t) r ≤ (depN h).lab (depR h a u) r := by
  obtain ⟨l1, h1⟩ := depR_is hv ha (t := t) ⟨h0, by omega⟩
  obtain ⟨l2, h2⟩ := depR_is hv ha (t := u) ⟨by omega, hu⟩
  have := h1.most (depN_ok hv) h2.closed (by have : -((depN h).lab (depR h a u) a) ≤ -u := h2.start; show -((depN h).lab (depR h a u) a) ≤ -t; omega) r
  have h3 : -((depN h).lab (depR h a u) r) ≤ -((depN h).lab (depR h a t) r) := this
  omega
/-- One arrives no earlier than one begins, and is where one begins from the beginning on. -/
theorem arr_self {h : House} (hv : h.V) {a : Nat} (ha : a < h.rooms.length) {t : Int} (ht : 0 ≤ t ∧ t ≤ 1073741824) : (arrN h).lab (arrR h a t) a = t ∧ ∀ r, t ≤ (arrN h).lab (arrR h a t) r := by
  obtain ⟨l1, h1⟩ := arrR_is hv ha ht
  have hM : Closed (arrN h) (fun _ => t) := by
    refine ⟨fun _ => ht, fun g hg hl => ?_⟩
    have hl' : t < 1073741824 := hl
    have := enter_spec hv (gate_ok hv hg) ht.1 (by omega)
    show t ≤ enter h g t
    omega
  have hall : ∀ r, t ≤ (arrN h).lab (arrR h a t) r := fun r => h1.most (arrN_ok hv) hM (Int.le_refl _) r
  have : (arrN h).lab (arrR h a t) a ≤ t := h1.start
  exact ⟨by have := hall a; omega, hall⟩
theorem dep_self {h : House} (hv : h.V) {a : Nat} (ha : a < h.rooms.length) {t : Int} (ht : -1 ≤ t ∧ t ≤ 1073741823) : (depN h).lab (depR h a t) a = t ∧ ∀ r, (depN h).lab (depR h a t) r ≤ t := by
  obtain ⟨l1, h1⟩ := depR_is hv ha ht
  have hM : Closed (depN h) (fun _ => t) := by
    refine ⟨fun _ => ht, fun g hg hl => ?_⟩
    have hl' : -t < -(-1) := hl
    have := depart_spec hv (gate_ok hv hg) (t := t) (by omega)
    show -t ≤ -(depart h g t)
    omega
  have hall : ∀ r, (depN h).lab (depR h a t) r ≤ t := fun r => by
    have : -t ≤ -((depN h).lab (depR h a t) r) := h1.most (depN_ok hv) hM (Int.le_refl _) r
    omega
  have : -((depN h).lab (depR h a t) a) ≤ -t := h1.start
  exact ⟨by have := hall a; omega, hall⟩
end Go.Proofs.Hs

set_option maxHeartbeats 8000000
set_option linter.unusedSimpArgs false
set_option linter.unusedVariables false
set_option maxRecDepth 10000
namespace Go.Proofs.Hs
open Go Go.Pg Go.Proofs

open Lab in
theorem isWall_iff {h : House} (hv : h.V) {a ta b tb : Int} {l : List Int} (ha : 0 ≤ a ∧ a < (h.rooms.length : Int)) (hb : 0 ≤ b ∧ b < (h.rooms.length : Int)) :
    isWall h a ta b tb l = true ↔ l.length = h.rooms.length ∧ Closed (arrN h) ((arrN h).lab l) ∧ (arrN h).lab l a.toNat ≤ ta ∧ tb < (arrN h).lab l b.toNat := by
  by_cases hl : l.length = h.rooms.length
  · have e1 : (arrN h).lab l a.toNat = l.getD a.toNat 0 := getD_lab (by omega)
    have e2 : (arrN h).lab l b.toNat = l.getD b.toNat 0 := getD_lab (by omega)
    have e3 : ∀ g ∈ gates h, (arrN h).lab l g.from'.toNat = l.getD g.from'.toNat 0 ∧ (arrN h).lab l g.to.toNat = l.getD g.to.toNat 0 := fun g hg => by
      have hgo := gate_ok hv hg
      have h1 := hgo.from'
      have h2 := hgo.to
      exact ⟨getD_lab (by omega), getD_lab (by omega)⟩
    simp only [isWall, Bool.and_eq_true, decide_eq_true_eq, List.all_eq_true, neverB, e1, e2, hl, true_and]
    constructor
    · rintro ⟨hin, hs, he, hg⟩
      refine ⟨⟨lab_in (arrN_ok hv) (fun x hx => hin x hx), fun g hgg hlt => ?_⟩, hs, he⟩
      obtain ⟨f1, f2⟩ := e3 g hgg
      have hin' := lab_in (arrN_ok hv) (row := l) (fun x hx => hin x hx)
      have hf := hg g hgg
      have i1 : 0 ≤ l.getD g.from'.toNat 0 := by have := (hin' g.from'.toNat).1; rw [f1] at this; exact this
      change (arrN h).lab l g.to.toNat ≤ enter h g ((arrN h).lab l g.from'.toNat)
      change (arrN h).lab l g.from'.toNat < 1073741824 at hlt
      rw [f1] at hlt
      rw [f1, f2]
      simp only [fineG, timeB, Bool.not_eq_true', Bool.and_eq_false_iff, decide_eq_false_iff_not] at hf
      omega
    · rintro ⟨hc, hs, he⟩
      refine ⟨fun x hx => ?_, hs, he, fun g hgg => ?_⟩
      · obtain ⟨i, hi, rfl⟩ := List.getElem_of_mem hx
        have := hc.In i
        have e4 : (arrN h).lab l i = l[i] := by rw [getD_lab hi, List.getD_eq_getElem?_getD, List.getElem?_eq_getElem hi]; rfl
        rw [e4] at this
        exact this
      · obtain ⟨f1, f2⟩ := e3 g hgg
        have hr := hc.rel g hgg
        change (arrN h).lab l g.from'.toNat < 1073741824 → (arrN h).lab l g.to.toNat ≤ enter h g ((arrN h).lab l g.from'.toNat) at hr
        rw [f1, f2] at hr
        simp only [fineG, timeB, Bool.not_eq_true', Bool.and_eq_false_iff, decide_eq_false_iff_not]
        omega
  · constructor
    · intro h1
      simp only [isWall, Bool.and_eq_true, decide_eq_true_eq] at h1
      exact absurd h1.1 hl
    · exact fun h1 => absurd h1.1 hl
theorem wall_true {h : House} (hv : h.V) {a ta b tb : Int} (ha : 0 ≤ a ∧ a < (h.rooms.length : Int)) (hb : 0 ≤ b ∧ b < (h.rooms.length : Int)) (ht : 0 ≤ ta ∧ ta ≤ 1073741823) (hgt : ¬ (arrH h a.toNat ta).1.getD b.toNat 0 ≤ tb) :
    isWall h a ta b tb (arrH h a.toNat ta).1 = true := by
  rw [arrH_eq hv ha ht] at hgt ⊢
  obtain ⟨hl, hi⟩ := arrR_is hv (a := a.toNat) (by omega) (t := ta) (by omega)
  exact (isWall_iff hv ha hb).2 ⟨hl, hi.closed, hi.start, by rw [getD_lab (by omega)]; omega⟩
theorem law6_ok (h : House) (a ta b tb : Int) (hn : ∀ r ∈ h.rooms, r.name.size ≤ 9223372036854775807) : OKv cx 6 [.agg (eHouse h), ai a, ai ta, ai b, ai tb] (ab true) := by
  by_cases hf : few h = true
  · have hfit := few_fit hf hn
    have hrl := hfit.rooms
    by_cases he : askedE h [a, b] [ta, tb] = 0
    · obtain ⟨hc, hra, hrb, hta, htb⟩ := askedE_two_zero he
      have hv := Check_V hc
      by_cases hle : (arrH h a.toNat ta).1.getD b.toNat 0 ≤ tb
      · have hW : wallH h a ta b tb = ([], 5) := by unfold wallH; rw [if_neg (by simp [he]), if_pos hle]
        have hC : canH h a ta b tb = (true, 0) := by unfold canH; rw [if_neg (by simp [he])]; simp only [hle, decide_true]
        refine OKat.of_body (rs := [10]) Tryd.func6 rfl (by decide +kernel) rfl (by simp [Tryd.ntmps6]) ?_
        simp only [Tryd.ntmps6]
        repeat' first
          | apply AW.seq | apply AW.region | apply AW.ret | apply AW.block | apply AW.skip | apply AW.exit | apply AW.scope | apply AW.label | apply AWL.nil
          | ((first | (apply W.step cx_ok; decide) | (apply W.gS; rfl; decide) | apply AW.cond); (simp (disch := omega) only [push_cast, simprocAttr, hf, hW, hC] <;> rfl); all_goals try ((with_reducible intro hI); try first | (cases hI; done) | (simp only [INTS] at hI; try first | (exfalso; omega) | (have hT : True := hI; clear hT hI))))
          | ((apply W.callv cx_ok; decide); (iterate 2 (simp (disch := omega) only [push_cast, simprocAttr, hf, hW, hC] <;> rfl)); (with_reducible first | exact few_ok _ | exact sanity_ok | exact Wall_ok _ _ _ _ _ hfit | exact CanR_ok _ _ _ _ _ hfit); try first | rfl | (simp (disch := omega) only [push_cast, simprocAttr, hf, hW, hC] <;> rfl))
          | ((first | apply W.ret1 | apply W.end1); (iterate 2 (try (simp (disch := omega) only [push_cast, simprocAttr, hf, hW, hC] <;> rfl))))
        all_goals (show _ = _; first | rfl | (simp_all; done))
      · have hW : wallH h a ta b tb = ((arrH h a.toNat ta).1, 0) := by unfold wallH; rw [if_neg (by simp [he]), if_neg hle]
        have hC : canH h a ta b tb = (false, 0) := by unfold canH; rw [if_neg (by simp [he])]; simp only [hle, decide_false]
        have hI : isWall h a ta b tb (arrH h a.toNat ta).1 = true := wall_true hv hra hrb hta hle
        have hCW : checkWallH h a ta b tb (arrH h a.toNat ta).1 = 0 := by unfold checkWallH; rw [if_neg (by simp [he]), if_pos hI]
        have hll : (arrH h a.toNat ta).1.length ≤ 1099511627776 := by rw [(arrH_len h a.toNat ta).1]; omega
        have hIW := hI
        clear hI
        refine OKat.of_body (rs := [10]) Tryd.func6 rfl (by decide +kernel) rfl (by simp [Tryd.ntmps6]) ?_
        simp only [Tryd.ntmps6]
        repeat' first
          | apply AW.seq | apply AW.region | apply AW.ret | apply AW.block | apply AW.skip | apply AW.exit | apply AW.scope | apply AW.label | apply AWL.nil
          | ((first | (apply W.step cx_ok; decide) | (apply W.gS; rfl; decide) | apply AW.cond); (simp (disch := omega) only [push_cast, simprocAttr, hf, hW, hC, hIW, hCW] <;> rfl); all_goals try ((with_reducible intro hI); try first | (cases hI; done) | (simp only [INTS] at hI; try first | (exfalso; omega) | (have hT : True := hI; clear hT hI))))
          | ((apply W.callv cx_ok; decide); (iterate 2 (simp (disch := omega) only [push_cast, simprocAttr, hf, hW, hC, hIW, hCW] <;> rfl)); (with_reducible first | exact few_ok _ | exact sanity_ok | exact Wall_ok _ _ _ _ _ hfit | exact CanR_ok _ _ _ _ _ hfit | exact IsWallR_ok _ _ _ _ _ _ hfit hv hra hrb hll | exact CheckWall_ok _ _ _ _ _ _ hfit hll); try first | rfl | (simp (disch := omega) only [push_cast, simprocAttr, hf, hW, hC, hIW, hCW] <;> rfl))
          | ((first | apply W.ret1 | apply W.end1); (iterate 2 (try (simp (disch := omega) only [push_cast, simprocAttr, hf, hW, hC, hIW, hCW] <;> rfl))))
        all_goals (show _ = _; first | rfl | (simp_all; done))
    · have hW : wallH h a ta b tb = ([], askedE h [a, b] [ta, tb]) := by unfold wallH; rw [if_pos he]
      have hC : canH h a ta b tb = (false, askedE h [a, b] [ta, tb]) := by unfold canH; rw [if_pos he]
      refine OKat.of_body (rs := [10]) Tryd.func6 rfl (by decide +kernel) rfl (by simp [Tryd.ntmps6]) ?_
      simp only [Tryd.ntmps6]
      repeat' first
        | apply AW.seq | apply AW.region | apply AW.ret | apply AW.block | apply AW.skip | apply AW.exit | apply AW.scope | apply AW.label | apply AWL.nil
        | ((first | (apply W.step cx_ok; decide) | (apply W.gS; rfl; decide) | apply AW.cond); (simp (disch := omega) only [push_cast, simprocAttr, hf, hW, hC, he] <;> rfl); all_goals try ((with_reducible intro hI); try first | (cases hI; done) | (simp only [INTS] at hI; try first | (exfalso; omega) | (have hT : True := hI; clear hT hI))))
        | ((apply W.callv cx_ok; decide); (iterate 2 (simp (disch := omega) only [push_cast, simprocAttr, hf, hW, hC, he] <;> rfl)); (with_reducible first | exact few_ok _ | exact sanity_ok | exact Wall_ok _ _ _ _ _ hfit | exact CanR_ok _ _ _ _ _ hfit); try first | rfl | (simp (disch := omega) only [push_cast, simprocAttr, hf, hW, hC, he] <;> rfl))
        | ((first | apply W.ret1 | apply W.end1); (iterate 2 (try (simp (disch := omega) only [push_cast, simprocAttr, hf, hW, hC, he] <;> rfl))))
      all_goals (show _ = _; first | rfl | (simp_all; done))
  · have hf' : few h = false := by simpa using hf
    refine OKat.of_body (rs := [10]) Tryd.func6 rfl (by decide +kernel) rfl (by simp [Tryd.ntmps6]) ?_
    simp only [Tryd.ntmps6]
    repeat' first
      | apply AW.seq | apply AW.region | apply AW.ret | apply AW.block | apply AW.skip | apply AW.exit | apply AW.scope | apply AW.label | apply AWL.nil
      | ((first | (apply W.step cx_ok; decide) | (apply W.gS; rfl; decide) | apply AW.cond); (simp (disch := omega) only [push_cast, simprocAttr, hf'] <;> rfl); all_goals try ((with_reducible intro hI); try first | (cases hI; done) | (simp only [INTS] at hI; try first | (exfalso; omega) | (have hT : True := hI; clear hT hI))))
      | ((apply W.callv cx_ok; decide); (iterate 2 (simp (disch := omega) only [push_cast, simprocAttr, hf'] <;> rfl)); (with_reducible first | exact few_ok _ | exact sanity_ok); try first | rfl | (simp (disch := omega) only [push_cast, simprocAttr, hf'] <;> rfl))
      | ((first | apply W.ret1 | apply W.end1); (iterate 2 (try (simp (disch := omega) only [push_cast, simprocAttr, hf'] <;> rfl))))
    all_goals (show _ = _; first | rfl | (simp_all; done))

end Go.Proofs.Hs

set_option maxHeartbeats 8000000
set_option linter.unusedSimpArgs false
set_option linter.unusedVariables false
set_option maxRecDepth 10000
namespace Go.Proofs.Hs
open Go Go.Pg Go.Proofs

def enterH (h : House) (w : Int) (back : Bool) (t : Int) : Int × Int := if (gateAsked h w back t).2 ≠ 0 then (0, (gateAsked h w back t).2) else (enter h (gateAsked h w back t).1 t, 0)
def departH (h : House) (w : Int) (back : Bool) (t : Int) : Int × Int := if (gateAsked h w back t).2 ≠ 0 then (0, (gateAsked h w back t).2) else (depart h (gateAsked h w back t).1 t, 0)
theorem gateAsked_ok0 {h : House} {w : Int} {back : Bool} {t : Int} (he : (gateAsked h w back t).2 = 0) : h.V ∧ (gateAsked h w back t).1.OK h ∧ (0 ≤ t ∧ t ≤ 1073741823) := by
  rw [gateAsked_eq] at he ⊢
  obtain ⟨h1, h2, h3⟩ := askedR_ok he
  exact ⟨Check_V h1, h3, h2⟩
theorem gateR_ok (h : House) (way : Int) (back : Bool) (t : Int) (hfit : h.Fit) : OKv cx 95 [.agg (eHouse h), ai way, ab back, ai t] (.tup [.agg (eGateR (gateAsked h way back t).1), ai (gateAsked h way back t).2]) := by
  rw [gateAsked_eq]; exact askedR_cx h way back t hfit
theorem EnterG_ok (h : House) (w : Int) (back : Bool) (t : Int) (hfit : h.Fit) : OKv cx 41 [.agg (eHouse h), ai w, ab back, ai t] (.tup [ai (enterH h w back t).1, ai (enterH h w back t).2]) := by
  by_cases he : (gateAsked h w back t).2 = 0
  · obtain ⟨hv, hgo, ht1, ht2⟩ := gateAsked_ok0 he
    have hE : enterH h w back t = (enter h (gateAsked h w back t).1 t, 0) := if_neg (by simp [he])
    refine OKat.of_body (rs := [8, 9]) Tryd.func41 rfl (by decide +kernel) rfl (by simp [Tryd.ntmps41]) ?_
    simp only [Tryd.ntmps41]
    repeat' first
      | apply AW.seq | apply AW.region | apply AW.ret | apply AW.block | apply AW.skip | apply AW.exit | apply AW.scope | apply AW.label | apply AWL.nil
      | ((first | (apply W.step cx_ok; decide) | apply W.store cx_ok | apply AW.cond); (simp (disch := omega) only [push_cast, simprocAttr, he] <;> rfl); all_goals try ((with_reducible intro hI); try first | (cases hI; done) | (simp only [INTS] at hI; try first | (exfalso; omega) | (have hT : True := hI; clear hT hI))))
      | ((apply W.callv cx_ok; decide); (iterate 2 (simp (disch := omega) only [push_cast, simprocAttr, he] <;> rfl)); (with_reducible first | exact gateAsked_ok _ _ _ _ hfit | exact enter_ok _ _ _ hv hgo (by omega) (by omega)); try first | rfl | (simp (disch := omega) only [push_cast, simprocAttr, he] <;> rfl))
      | ((first | apply W.ret2 | apply W.end2); (iterate 2 (try (simp (disch := omega) only [push_cast, simprocAttr, he] <;> rfl))))
    all_goals (show _ = _; rw [hE])
  · have hE : enterH h w back t = (0, (gateAsked h w back t).2) := if_pos he
    refine OKat.of_body (rs := [8, 9]) Tryd.func41 rfl (by decide +kernel) rfl (by simp [Tryd.ntmps41]) ?_
    simp only [Tryd.ntmps41]
    repeat' first
      | apply AW.seq | apply AW.region | apply AW.ret | apply AW.block | apply AW.skip | apply AW.exit | apply AW.scope | apply AW.label | apply AWL.nil
      | ((first | (apply W.step cx_ok; decide) | apply W.store cx_ok | apply AW.cond); (simp (disch := omega) only [push_cast, simprocAttr, he] <;> rfl); all_goals try ((with_reducible intro hI); try first | (cases hI; done) | (simp only [INTS] at hI; try first | (exfalso; omega) | (have hT : True := hI; clear hT hI))))
      | ((apply W.callv cx_ok; decide); (iterate 2 (simp (disch := omega) only [push_cast, simprocAttr, he] <;> rfl)); (with_reducible first | exact gateAsked_ok _ _ _ _ hfit); try first | rfl | (simp (disch := omega) only [push_cast, simprocAttr, he] <;> rfl))
      | ((first | apply W.ret2 | apply W.end2); (iterate 2 (try (simp (disch := omega) only [push_cast, simprocAttr, he] <;> rfl))))
    all_goals (show _ = _; rw [hE])
theorem EnterGR_ok (h : House) (w : Int) (back : Bool) (t : Int) (hfit : h.Fit) : OKv cx 42 [.agg (eHouse h), ai w, ab back, ai t] (.tup [ai (enterH h w back t).1, ai (enterH h w back t).2]) := by
  by_cases he : (gateAsked h w back t).2 = 0
  · obtain ⟨hv, hgo, ht1, ht2⟩ := gateAsked_ok0 he
    have hE : enterH h w back t = (enter h (gateAsked h w back t).1 t, 0) := if_neg (by simp [he])
    refine OKat.of_body (rs := [8, 9]) Tryd.func42 rfl (by decide +kernel) rfl (by simp [Tryd.ntmps42]) ?_
    simp only [Tryd.ntmps42]
    repeat' first
      | apply AW.seq | apply AW.region | apply AW.ret | apply AW.block | apply AW.skip | apply AW.exit | apply AW.scope | apply AW.label | apply AWL.nil
      | ((first | (apply W.step cx_ok; decide) | apply W.store cx_ok | apply AW.cond); (simp (disch := omega) only [push_cast, simprocAttr, he] <;> rfl); all_goals try ((with_reducible intro hI); try first | (cases hI; done) | (simp only [INTS] at hI; try first | (exfalso; omega) | (have hT : True := hI; clear hT hI))))
      | ((apply W.callv cx_ok; decide); (iterate 2 (simp (disch := omega) only [push_cast, simprocAttr, he] <;> rfl)); (with_reducible first | exact gateR_ok _ _ _ _ hfit | exact enterR_ok _ _ _ hv hgo (by omega) (by omega)); try first | rfl | (simp (disch := omega) only [push_cast, simprocAttr, he] <;> rfl))
      | ((first | apply W.ret2 | apply W.end2); (iterate 2 (try (simp (disch := omega) only [push_cast, simprocAttr, he] <;> rfl))))
    all_goals (show _ = _; rw [hE])
  · have hE : enterH h w back t = (0, (gateAsked h w back t).2) := if_pos he
    refine OKat.of_body (rs := [8, 9]) Tryd.func42 rfl (by decide +kernel) rfl (by simp [Tryd.ntmps42]) ?_
    simp only [Tryd.ntmps42]
    repeat' first
      | apply AW.seq | apply AW.region | apply AW.ret | apply AW.block | apply AW.skip | apply AW.exit | apply AW.scope | apply AW.label | apply AWL.nil
      | ((first | (apply W.step cx_ok; decide) | apply W.store cx_ok | apply AW.cond); (simp (disch := omega) only [push_cast, simprocAttr, he] <;> rfl); all_goals try ((with_reducible intro hI); try first | (cases hI; done) | (simp only [INTS] at hI; try first | (exfalso; omega) | (have hT : True := hI; clear hT hI))))
      | ((apply W.callv cx_ok; decide); (iterate 2 (simp (disch := omega) only [push_cast, simprocAttr, he] <;> rfl)); (with_reducible first | exact gateR_ok _ _ _ _ hfit); try first | rfl | (simp (disch := omega) only [push_cast, simprocAttr, he] <;> rfl))
      | ((first | apply W.ret2 | apply W.end2); (iterate 2 (try (simp (disch := omega) only [push_cast, simprocAttr, he] <;> rfl))))
    all_goals (show _ = _; rw [hE])
theorem DepartG_ok (h : House) (w : Int) (back : Bool) (t : Int) (hfit : h.Fit) : OKv cx 43 [.agg (eHouse h), ai w, ab back, ai t] (.tup [ai (departH h w back t).1, ai (departH h w back t).2]) := by
  by_cases he : (gateAsked h w back t).2 = 0
  · obtain ⟨hv, hgo, ht1, ht2⟩ := gateAsked_ok0 he
    have hE : departH h w back t = (depart h (gateAsked h w back t).1 t, 0) := if_neg (by simp [he])
    refine OKat.of_body (rs := [8, 9]) Tryd.func43 rfl (by decide +kernel) rfl (by simp [Tryd.ntmps43]) ?_
    simp only [Tryd.ntmps43]
    repeat' first
      | apply AW.seq | apply AW.region | apply AW.ret | apply AW.block | apply AW.skip | apply AW.exit | apply AW.scope | apply AW.label | apply AWL.nil
      | ((first | (apply W.step cx_ok; decide) | apply W.store cx_ok | apply AW.cond); (simp (disch := omega) only [push_cast, simprocAttr, he] <;> rfl); all_goals try ((with_reducible intro hI); try first | (cases hI; done) | (simp only [INTS] at hI; try first | (exfalso; omega) | (have hT : True := hI; clear hT hI))))
      | ((apply W.callv cx_ok; decide); (iterate 2 (simp (disch := omega) only [push_cast, simprocAttr, he] <;> rfl)); (with_reducible first | exact gateAsked_ok _ _ _ _ hfit | exact depart_ok _ _ _ hv hgo (by omega) (by omega)); try first | rfl | (simp (disch := omega) only [push_cast, simprocAttr, he] <;> rfl))
      | ((first | apply W.ret2 | apply W.end2); (iterate 2 (try (simp (disch := omega) only [push_cast, simprocAttr, he] <;> rfl))))
    all_goals (show _ = _; rw [hE])
  · have hE : departH h w back t = (0, (gateAsked h w back t).2) := if_pos he
    refine OKat.of_body (rs := [8, 9]) Tryd.func43 rfl (by decide +kernel) rfl (by simp [Tryd.ntmps43]) ?_
    simp only [Tryd.ntmps43]
    repeat' first
      | apply AW.seq | apply AW.region | apply AW.ret | apply AW.block | apply AW.skip | apply AW.exit | apply AW.scope | apply AW.label | apply AWL.nil
      | ((first | (apply W.step cx_ok; decide) | apply W.store cx_ok | apply AW.cond); (simp (disch := omega) only [push_cast, simprocAttr, he] <;> rfl); all_goals try ((with_reducible intro hI); try first | (cases hI; done) | (simp only [INTS] at hI; try first | (exfalso; omega) | (have hT : True := hI; clear hT hI))))
      | ((apply W.callv cx_ok; decide); (iterate 2 (simp (disch := omega) only [push_cast, simprocAttr, he] <;> rfl)); (with_reducible first | exact gateAsked_ok _ _ _ _ hfit); try first | rfl | (simp (disch := omega) only [push_cast, simprocAttr, he] <;> rfl))
      | ((first | apply W.ret2 | apply W.end2); (iterate 2 (try (simp (disch := omega) only [push_cast, simprocAttr, he] <;> rfl))))
    all_goals (show _ = _; rw [hE])
theorem DepartGR_ok (h : House) (w : Int) (back : Bool) (t : Int) (hfit : h.Fit) : OKv cx 44 [.agg (eHouse h), ai w, ab back, ai t] (.tup [ai (departH h w back t).1, ai (departH h w back t).2]) := by
  by_cases he : (gateAsked h w back t).2 = 0
  · obtain ⟨hv, hgo, ht1, ht2⟩ := gateAsked_ok0 he
    have hE : departH h w back t = (depart h (gateAsked h w back t).1 t, 0) := if_neg (by simp [he])
    refine OKat.of_body (rs := [8, 9]) Tryd.func44 rfl (by decide +kernel) rfl (by simp [Tryd.ntmps44]) ?_
    simp only [Tryd.ntmps44]
    repeat' first
      | apply AW.seq | apply AW.region | apply AW.ret | apply AW.block | apply AW.skip | apply AW.exit | apply AW.scope | apply AW.label | apply AWL.nil
      | ((first | (apply W.step cx_ok; decide) | apply W.store cx_ok | apply AW.cond); (simp (disch := omega) only [push_cast, simprocAttr, he] <;> rfl); all_goals try ((with_reducible intro hI); try first | (cases hI; done) | (simp only [INTS] at hI; try first | (exfalso; omega) | (have hT : True := hI; clear hT hI))))
      | ((apply W.callv cx_ok; decide); (iterate 2 (simp (disch := omega) only [push_cast, simprocAttr, he] <;> rfl)); (with_reducible first | exact gateR_ok _ _ _ _ hfit | exact departR_ok _ _ _ hv hgo (by omega) (by omega)); try first | rfl | (simp (disch := omega) only [push_cast, simprocAttr, he] <;> rfl))
      | ((first | apply W.ret2 | apply W.end2); (iterate 2 (try (simp (disch := omega) only [push_cast, simprocAttr, he] <;> rfl))))
    all_goals (show _ = _; rw [hE])
  · have hE : departH h w back t = (0, (gateAsked h w back t).2) := if_pos he
    refine OKat.of_body (rs := [8, 9]) Tryd.func44 rfl (by decide +kernel) rfl (by simp [Tryd.ntmps44]) ?_
    simp only [Tryd.ntmps44]
    repeat' first
      | apply AW.seq | apply AW.region | apply AW.ret | apply AW.block | apply AW.skip | apply AW.exit | apply AW.scope | apply AW.label | apply AWL.nil
      | ((first | (apply W.step cx_ok; decide) | apply W.store cx_ok | apply AW.cond); (simp (disch := omega) only [push_cast, simprocAttr, he] <;> rfl); all_goals try ((with_reducible intro hI); try first | (cases hI; done) | (simp only [INTS] at hI; try first | (exfalso; omega) | (have hT : True := hI; clear hT hI))))
      | ((apply W.callv cx_ok; decide); (iterate 2 (simp (disch := omega) only [push_cast, simprocAttr, he] <;> rfl)); (with_reducible first | exact gateR_ok _ _ _ _ hfit); try first | rfl | (simp (disch := omega) only [push_cast, simprocAttr, he] <;> rfl))
      | ((first | apply W.ret2 | apply W.end2); (iterate 2 (try (simp (disch := omega) only [push_cast, simprocAttr, he] <;> rfl))))
    all_goals (show _ = _; rw [hE])

end Go.Proofs.Hs

set_option maxHeartbeats 8000000
set_option linter.unusedSimpArgs false
set_option linter.unusedVariables false
set_option maxRecDepth 10000
namespace Go.Proofs.Hs
open Go Go.Pg Go.Proofs

def findO (s : ByteArray) (i : Nat) : List Room → Option Int
  | [] => none
  | r :: l => if s.data.toList == r.name.data.toList then some (i : Int) else findO s (i + 1) l
def idxM (i : Nat) : List Room → List (ByteArray × AV)
  | [] => []
  | r :: l => (r.name, ai (i : Int)) :: idxM (i + 1) l
theorem findM_idx (s : ByteArray) : ∀ (l : List Room) (i : Nat), findM s (idxM i l) = (findO s i l).map ai
  | [], _ => rfl
  | r :: l, i => by
    unfold idxM findO findM
    split
    · rfl
    · exact findM_idx s l (i + 1)
theorem putM_idx (x : Room) : ∀ (pre : List Room) (i : Nat), hasN pre x.name = false → putM x.name (ai ((i + pre.length : Nat) : Int)) (idxM i pre) = idxM i (pre ++ [x])
  | [], _, _ => rfl
  | r :: l, i, h => by
    simp only [hasN, List.any_cons, Bool.or_eq_false_iff] at h
    simp only [List.cons_append, idxM, putM, List.length_cons]
    rw [if_neg (by rw [h.1]; simp), show i + (l.length + 1) = i + 1 + l.length by omega, putM_idx x l (i + 1) h.2]
theorem chkR_cons {k : Nat} {pre rest : List Room} {x : Room} (h : chkR k pre (x :: rest) = none) : hasN pre x.name = false ∧ chkR (k + 1) (pre ++ [x]) rest = none := by
  unfold chkR at h
  split at h
  · split at h
    · cases h
    · rename_i hq; exact ⟨by simpa using hq, h⟩
  · cases h
theorem chkR_valid {h : House} (hc : (Check h).1 = 0) : chkR 0 [] h.rooms = none := by
  unfold Check at hc
  split at hc
  · cases hc
  · split at hc
    · cases hc
    · unfold chk1 at hc
      cases hq : chkR 0 [] h.rooms with
      | none => rfl
      | some e => rw [hq] at hc; exact absurd hc (chkR_ne0 _ _ _ _ hq)
def findH (h : House) (s : ByteArray) : Int × Int := if (Check h).1 ≠ 0 then (0, (Check h).1) else match findO s 0 h.rooms with
  | some i => (i, 0)
  | none => (0, 5)
theorem askedNN_ok (h : House) (hfit : h.Fit) : OKv cx 74 [.agg (eHouse h), .lst [], .lst []] (ai (Check h).1) := by
  have h1 := asked_ok h [] [] hfit (by simp) (by simp)
  have h2 : askedE h [] [] = (Check h).1 := by unfold askedE; split <;> simp_all
  rw [h2] at h1
  exact h1
theorem Find_ok (h : House) (s0 : ByteArray) (hfit : h.Fit) : OKv cx 39 [.agg (eHouse h), .v (.string s0)] (.tup [ai (findH h s0).1, ai (findH h s0).2]) := by
  have hfr := hfit.rooms
  by_cases hc : (Check h).1 = 0
  · have hcr := chkR_valid hc
    refine OKat.of_body (rs := [4, 5]) Tryd.func39 rfl (by decide +kernel) rfl (by simp [Tryd.ntmps39]) ?_
    simp only [Tryd.ntmps39]
    repeat' first
      | apply AW.seq | apply AW.region | apply AW.ret | apply AW.block | apply AW.skip | apply AW.exit | apply AW.scope | apply AW.label | apply AWL.nil
      | ((first | (apply W.step cx_ok; decide) | apply W.store cx_ok | apply AW.cond | apply W.mapUpdate cx_ok); (simp (disch := omega) only [push_cast, simprocAttr, hc] <;> rfl); all_goals try ((with_reducible intro hI); try first | (cases hI; done) | (simp only [INTS] at hI; try first | (exfalso; omega) | (have hT : True := hI; clear hT hI))))
      | (refine W.makeMap cx_ok (by decide) ?_)
      | ((apply W.callv cx_ok; decide); (iterate 2 (simp (disch := omega) only [push_cast, simprocAttr, hc] <;> rfl)); (with_reducible first | exact askedNN_ok _ hfit); try first | rfl | (simp (disch := omega) only [push_cast, simprocAttr, hc] <;> rfl))
      | ((first | apply W.ret2 | apply W.end2); (iterate 2 (try (simp (disch := omega) only [push_cast, simprocAttr, hc] <;> rfl))))
    refine AW.loop (fun n s => ∃ (k : Nat) (pre rest : List Room), n = rest.length ∧ (h.rooms.drop k = rest) ∧ (pre ++ rest = h.rooms) ∧ (pre.length = k) ∧ (chkR k pre rest = none) ∧ 2 ≤ s.nx ∧ s.tm 1 = .v (.string s0) ∧ s.tm 2 = .ptr 0 0 0 1 ∧ s.tm 7 = .map 1 ∧ s.tm 19 = .lst (h.rooms.map eRoom) ∧ s.tm 20 = ai h.rooms.length ∧ s.tm 21 = ai k ∧ Pg.rowAt s.H (0) = some ({ k := 3, es := [eHouse h], ty := 26 }) ∧ s.H (1) = some (.mp 0 0 (idxM 0 pre))) (h.rooms.length) ⟨0, [], h.rooms, rfl, rfl, rfl, rfl, hcr, ?_, ?_, ?_, ?_, ?_, ?_, ?_, ?_, ?_⟩ ?_
    iterate 9 (first | (simp (disch := omega) only [push_cast, simprocAttr] <;> first | rfl | omega) | omega)
    rintro n s ⟨k, pre, rest, hn, hp0, hp1, hp2, hp3, hnl, hS⟩
    have hZ : (0 : Nat) ≠ s.nx ∧ s.nx ≠ (0 : Nat) ∧ (1 : Nat) ≠ s.nx ∧ s.nx ≠ (1 : Nat) := by omega
    rcases rest with _ | ⟨x, rest⟩
    · have hk := drop_nil hp0
      have hpr : pre = h.rooms := by simpa using hp1
      rw [hpr] at hS
      cases hfo : findO s0 0 h.rooms with
      | none =>
        have hE : findH h s0 = (0, 5) := by unfold findH; rw [if_neg (by simp [hc]), hfo]
        repeat' first
          | apply AW.seq | apply AW.region | apply AW.ret | apply AW.block | apply AW.skip | apply AW.exit | apply AW.scope | apply AW.label | apply AWL.nil
          | ((first | (apply W.step cx_ok; decide) | apply W.store cx_ok | apply AW.cond | apply W.mapUpdate cx_ok); (simp (disch := omega) only [push_cast, simprocAttr, hS, hZ, hk, findM_idx, hfo, pickM, Option.map_none, Option.map_some] <;> rfl); all_goals try ((with_reducible intro hI); try first | (cases hI; done) | (simp only [INTS] at hI; try first | (exfalso; omega) | (have hT : True := hI; clear hT hI))))
          | (refine W.makeMap cx_ok (by decide) ?_)
          | ((first | apply W.ret2 | apply W.end2); (iterate 2 (try (simp (disch := omega) only [push_cast, simprocAttr, hS, hZ, hk, findM_idx, hfo, pickM, Option.map_none, Option.map_some] <;> rfl))))
        all_goals (show _ = _; rw [hE])
      | some i =>
        have hE : findH h s0 = (i, 0) := by unfold findH; rw [if_neg (by simp [hc]), hfo]
        repeat' first
          | apply AW.seq | apply AW.region | apply AW.ret | apply AW.block | apply AW.skip | apply AW.exit | apply AW.scope | apply AW.label | apply AWL.nil
          | ((first | (apply W.step cx_ok; decide) | apply W.store cx_ok | apply AW.cond | apply W.mapUpdate cx_ok); (simp (disch := omega) only [push_cast, simprocAttr, hS, hZ, hk, findM_idx, hfo, pickM, Option.map_none, Option.map_some] <;> rfl); all_goals try ((with_reducible intro hI); try first | (cases hI; done) | (simp only [INTS] at hI; try first | (exfalso; omega) | (have hT : True := hI; clear hT hI))))
          | (refine W.makeMap cx_ok (by decide) ?_)
          | ((first | apply W.ret2 | apply W.end2); (iterate 2 (try (simp (disch := omega) only [push_cast, simprocAttr, hS, hZ, hk, findM_idx, hfo, pickM, Option.map_none, Option.map_some] <;> rfl))))
        all_goals (show _ = _; rw [hE])
    · obtain ⟨hk, hg, hd', hl', hm, hx⟩ := drop_cons hp0 eRoom []
      obtain ⟨hnn, hcr'⟩ := chkR_cons hp3
      have hput : putM x.name (ai (k : Int)) (idxM 0 pre) = idxM 0 (pre ++ [x]) := by have := putM_idx x pre 0 hnn; rwa [Nat.zero_add, hp2] at this
      repeat' first
        | apply AW.seq | apply AW.region | apply AW.ret | apply AW.block | apply AW.skip | apply AW.exit | apply AW.scope | apply AW.label | apply AWL.nil
        | ((first | (apply W.step cx_ok; decide) | apply W.store cx_ok | apply AW.cond | apply W.mapUpdate cx_ok); (simp (disch := omega) only [push_cast, simprocAttr, hS, hZ, hk, hg, hput] <;> rfl); all_goals try ((with_reducible intro hI); try first | (cases hI; done) | (simp only [INTS] at hI; try first | (exfalso; omega) | (have hT : True := hI; clear hT hI))))
        | (refine W.makeMap cx_ok (by decide) ?_)
        | ((first | apply W.ret2 | apply W.end2); (iterate 2 (try (simp (disch := omega) only [push_cast, simprocAttr, hS, hZ, hk, hg, hput] <;> rfl))))
      all_goals
        (refine ⟨rest.length, ?_, k + 1, pre ++ [x], rest, rfl, hd', (by simpa using hp1), (by simp [hp2]), hcr', ?_, ?_, ?_, ?_, ?_, ?_, ?_, ?_, ?_⟩; ((simp only [List.length_cons] at *; omega)); all_goals first | (simp (disch := omega) only [push_cast, simprocAttr, hS, hZ, hg, hk, hput] <;> first | rfl | omega) | omega)
  · have hE : findH h s0 = (0, (Check h).1) := if_pos hc
    refine OKat.of_body (rs := [4, 5]) Tryd.func39 rfl (by decide +kernel) rfl (by simp [Tryd.ntmps39]) ?_
    simp only [Tryd.ntmps39]
    repeat' first
      | apply AW.seq | apply AW.region | apply AW.ret | apply AW.block | apply AW.skip | apply AW.exit | apply AW.scope | apply AW.label | apply AWL.nil
      | ((first | (apply W.step cx_ok; decide) | apply W.store cx_ok | apply AW.cond | apply W.mapUpdate cx_ok); (simp (disch := omega) only [push_cast, simprocAttr, hc] <;> rfl); all_goals try ((with_reducible intro hI); try first | (cases hI; done) | (simp only [INTS] at hI; try first | (exfalso; omega) | (have hT : True := hI; clear hT hI))))
      | (refine W.makeMap cx_ok (by decide) ?_)
      | ((apply W.callv cx_ok; decide); (iterate 2 (simp (disch := omega) only [push_cast, simprocAttr, hc] <;> rfl)); (with_reducible first | exact askedNN_ok _ hfit); try first | rfl | (simp (disch := omega) only [push_cast, simprocAttr, hc] <;> rfl))
      | ((first | apply W.ret2 | apply W.end2); (iterate 2 (try (simp (disch := omega) only [push_cast, simprocAttr, hc] <;> rfl))))
    all_goals (show _ = _; rw [hE])
theorem FindR_ok (h : House) (s0 : ByteArray) (hfit : h.Fit) : OKv cx 40 [.agg (eHouse h), .v (.string s0)] (.tup [ai (findH h s0).1, ai (findH h s0).2]) := by
  have hfr := hfit.rooms
  by_cases hc : (Check h).1 = 0
  · have hF : findH h s0 = match findO s0 0 h.rooms with
      | some i => (i, 0)
      | none => (0, 5) := if_neg (by simp [hc])
    refine OKat.of_body (rs := [4, 5]) Tryd.func40 rfl (by decide +kernel) rfl (by simp [Tryd.ntmps40]) ?_
    simp only [Tryd.ntmps40]
    repeat' first
      | apply AW.seq | apply AW.region | apply AW.ret | apply AW.block | apply AW.skip | apply AW.exit | apply AW.scope | apply AW.label | apply AWL.nil
      | ((first | (apply W.step cx_ok; decide) | apply AW.cond); (simp (disch := omega) only [push_cast, simprocAttr, hc] <;> rfl); all_goals try ((with_reducible intro hI); try first | (cases hI; done) | (simp only [INTS] at hI; try first | (exfalso; omega) | (have hT : True := hI; clear hT hI))))
      | ((apply W.callv cx_ok; decide); (iterate 2 (simp (disch := omega) only [push_cast, simprocAttr, hc] <;> rfl)); (with_reducible first | exact Error_ok _ hfit); try first | rfl | (simp (disch := omega) only [push_cast, simprocAttr, hc] <;> rfl))
      | ((first | apply W.ret2 | apply W.end2); (iterate 2 (try (simp (disch := omega) only [push_cast, simprocAttr, hc] <;> rfl))))
    refine AW.loop (fun n s => ∃ (k : Nat) (rest : List Room), n = rest.length ∧ (h.rooms.drop k = rest) ∧ (findO s0 k rest = findO s0 0 h.rooms) ∧ 1 ≤ s.nx ∧ s.tm 1 = .v (.string s0) ∧ s.tm 2 = .ptr 0 0 0 1 ∧ s.tm 7 = ai k ∧ Pg.rowAt s.H (0) = some ({ k := 3, es := [eHouse h], ty := 26 })) (h.rooms.length) ⟨0, h.rooms, rfl, rfl, rfl, ?_, ?_, ?_, ?_, ?_⟩ ?_
    iterate 5 (first | (simp (disch := omega) only [push_cast, simprocAttr] <;> first | rfl | omega) | omega)
    rintro n s ⟨k, rest, hn, hp0, hp1, hnl, hS⟩
    have hZ : (0 : Nat) ≠ s.nx ∧ s.nx ≠ (0 : Nat) := by omega
    rcases rest with _ | ⟨x, rest⟩
    · have hk := drop_nil hp0
      repeat' first
        | apply AW.seq | apply AW.region | apply AW.ret | apply AW.block | apply AW.skip | apply AW.exit | apply AW.scope | apply AW.label | apply AWL.nil
        | ((first | (apply W.step cx_ok; decide) | apply AW.cond); (simp (disch := omega) only [push_cast, simprocAttr, hS, hZ, hk] <;> rfl); all_goals try ((with_reducible intro hI); try first | (cases hI; done) | (simp only [INTS] at hI; try first | (exfalso; omega) | (have hT : True := hI; clear hT hI))))
        | ((first | apply W.ret2 | apply W.end2); (iterate 2 (try (simp (disch := omega) only [push_cast, simprocAttr, hS, hZ, hk] <;> rfl))))
      all_goals (show _ = _; rw [hF, ← hp1]; rfl)
    · obtain ⟨hk, hg, hd', hl', hm, hx⟩ := drop_cons hp0 eRoom []
      repeat' first
        | apply AW.seq | apply AW.region | apply AW.ret | apply AW.block | apply AW.skip | apply AW.exit | apply AW.scope | apply AW.label | apply AWL.nil
        | ((first | (apply W.step cx_ok; decide) | apply AW.cond); (simp (disch := omega) only [push_cast, simprocAttr, hS, hZ, hk, hg] <;> rfl); all_goals try ((with_reducible intro hI); try first | (cases hI; done) | (simp only [INTS] at hI; try first | (exfalso; omega) | (have hT : True := hI; clear hT hI))))
        | ((first | apply W.ret2 | apply W.end2); (iterate 2 (try (simp (disch := omega) only [push_cast, simprocAttr, hS, hZ, hk, hg] <;> rfl))))
      all_goals first
        | (have hq : findO s0 k (x :: rest) = some (k : Int) := if_pos (by simp [*])
           rw [hq] at hp1
           show _ = _; rw [hF, ← hp1]; done)
        | (have hq : findO s0 k (x :: rest) = findO s0 (k + 1) rest := if_neg (by rw [beq_iff_eq]; intro hh; simp_all)
           rw [hq] at hp1
           (refine ⟨rest.length, ?_, k + 1, rest, rfl, hd', hp1, ?_, ?_, ?_, ?_, ?_⟩; ((simp only [List.length_cons] at *; omega)); all_goals first | (simp (disch := omega) only [push_cast, simprocAttr, hS, hZ, hg, hk] <;> first | rfl | omega) | omega))
  · have hE : findH h s0 = (0, (Check h).1) := if_pos hc
    refine OKat.of_body (rs := [4, 5]) Tryd.func40 rfl (by decide +kernel) rfl (by simp [Tryd.ntmps40]) ?_
    simp only [Tryd.ntmps40]
    repeat' first
      | apply AW.seq | apply AW.region | apply AW.ret | apply AW.block | apply AW.skip | apply AW.exit | apply AW.scope | apply AW.label | apply AWL.nil
      | ((first | (apply W.step cx_ok; decide) | apply AW.cond); (simp (disch := omega) only [push_cast, simprocAttr, hc] <;> rfl); all_goals try ((with_reducible intro hI); try first | (cases hI; done) | (simp only [INTS] at hI; try first | (exfalso; omega) | (have hT : True := hI; clear hT hI))))
      | ((apply W.callv cx_ok; decide); (iterate 2 (simp (disch := omega) only [push_cast, simprocAttr, hc] <;> rfl)); (with_reducible first | exact Error_ok _ hfit); try first | rfl | (simp (disch := omega) only [push_cast, simprocAttr, hc] <;> rfl))
      | ((first | apply W.ret2 | apply W.end2); (iterate 2 (try (simp (disch := omega) only [push_cast, simprocAttr, hc] <;> rfl))))
    all_goals (show _ = _; rw [hE])

end Go.Proofs.Hs

set_option maxHeartbeats 8000000
set_option linter.unusedSimpArgs false
set_option linter.unusedVariables false
set_option maxRecDepth 10000
namespace Go.Proofs.Hs
open Go Go.Pg Go.Proofs

theorem Equal_ok (a b : List Int) (ha : a.length ≤ 1099511627776) (hb : b.length ≤ 1099511627776) : OKv cx 97 [lInt a, lInt b] (ab (decide (a = b))) := by
  by_cases hl : a.length = b.length
  ·
    refine OKat.of_body (rs := [4]) Tryd.func97 rfl (by decide +kernel) rfl (by simp [Tryd.ntmps97]) ?_
    simp only [Tryd.ntmps97]
    repeat' first
      | apply AW.seq | apply AW.region | apply AW.ret | apply AW.block | apply AW.skip | apply AW.exit | apply AW.scope | apply AW.label | apply AWL.nil | apply D.nil
      | refine W.draw cx_mixed (by decide +kernel) ?_
      | ((first | (apply W.step cx_ok; decide) | (apply D.step cx_ok; decide; decide) | apply AW.cond); (simp (disch := omega) only [push_cast, simprocAttr] <;> rfl); all_goals try ((with_reducible intro hI); try first | (cases hI; done) | (simp only [INTS] at hI; try first | (exfalso; omega) | (have hT : True := hI; clear hT hI))))
      | ((first | apply W.ret1 | apply W.end1); (iterate 2 (try (simp (disch := omega) only [push_cast, simprocAttr] <;> rfl))))
    refine AW.loop (fun n s => ∃ (k : Nat) (ra rb : List Int), n = ra.length ∧ (a.drop k = ra) ∧ (b.drop k = rb) ∧ (ra.length = rb.length) ∧ (decide (ra = rb) = decide (a = b)) ∧ s.tm 0 = lInt a ∧ s.tm 1 = lInt b ∧ s.tm 12 = ai a.length ∧ s.tm 13 = ai k) (a.length) ⟨0, a, b, rfl, rfl, rfl, hl, rfl, ?_, ?_, ?_, ?_⟩ ?_
    iterate 4 (first | (simp (disch := omega) only [push_cast, simprocAttr] <;> first | rfl | omega) | omega)
    rintro n s ⟨k, ra, rb, hn, hp0, hp1, hp2, hp3, hS⟩
    rcases ra with _ | ⟨x, ra⟩
    · have hk := drop_nil hp0
      repeat' first
        | apply AW.seq | apply AW.region | apply AW.ret | apply AW.block | apply AW.skip | apply AW.exit | apply AW.scope | apply AW.label | apply AWL.nil | apply D.nil
        | refine W.draw cx_mixed (by decide +kernel) ?_
        | ((first | (apply W.step cx_ok; decide) | (apply D.step cx_ok; decide; decide) | apply AW.cond); (simp (disch := omega) only [push_cast, simprocAttr, hS, hk] <;> rfl); all_goals try ((with_reducible intro hI); try first | (cases hI; done) | (simp only [INTS] at hI; try first | (exfalso; omega) | (have hT : True := hI; clear hT hI))))
        | ((first | apply W.ret1 | apply W.end1); (iterate 2 (try (simp (disch := omega) only [push_cast, simprocAttr, hS, hk] <;> rfl))))
      all_goals
        (have hrb : rb = [] := List.eq_nil_of_length_eq_zero (by simpa using hp2.symm)
         show _ = _; rw [← hp3, hrb]; rfl)
    · obtain ⟨y, rb, rfl⟩ : ∃ y r, rb = y :: r := by
        cases rb with
        | nil => simp at hp2
        | cons y r => exact ⟨y, r, rfl⟩
      obtain ⟨hk, hg, hd', hl2, hm, hx⟩ := drop_cons hp0 eInt []
      obtain ⟨hkb, hgb, hdb, hlb, hmb, hxb⟩ := drop_cons hp1 eInt []
      have hp2' : ra.length = rb.length := by simpa using hp2
      repeat' first
        | apply AW.seq | apply AW.region | apply AW.ret | apply AW.block | apply AW.skip | apply AW.exit | apply AW.scope | apply AW.label | apply AWL.nil | apply D.nil
        | refine W.draw cx_mixed (by decide +kernel) ?_
        | ((first | (apply W.step cx_ok; decide) | (apply D.step cx_ok; decide; decide) | apply AW.cond); (simp (disch := omega) only [push_cast, simprocAttr, hS, hk, hg, hkb, hgb] <;> rfl); all_goals try ((with_reducible intro hI); try first | (cases hI; done) | (simp only [INTS] at hI; try first | (exfalso; omega) | (have hT : True := hI; clear hT hI))))
        | ((first | apply W.ret1 | apply W.end1); (iterate 2 (try (simp (disch := omega) only [push_cast, simprocAttr, hS, hk, hg, hkb, hgb] <;> rfl))))
      all_goals first
        | (show _ = _; rw [← hp3]; refine congrArg (fun b => AV.v (Value.bool b)) ?_; symm; rw [decide_eq_false_iff_not]; intro he; injection he with he1 he2; omega)
        | (have hxy : x = y := by omega
           have hp3' : decide (ra = rb) = decide (a = b) := by rw [← hp3, hxy]; simp
           (refine ⟨ra.length, ?_, k + 1, ra, rb, rfl, hd', hdb, hp2', hp3', ?_, ?_, ?_, ?_⟩; ((simp only [List.length_cons] at *; omega)); all_goals first | (simp (disch := omega) only [push_cast, simprocAttr, hS, hg, hk, hkb, hgb] <;> first | rfl | omega) | omega))
  · have hl' : ¬ (a.length : Int) = (b.length : Int) := by omega
    refine OKat.of_body (rs := [4]) Tryd.func97 rfl (by decide +kernel) rfl (by simp [Tryd.ntmps97]) ?_
    simp only [Tryd.ntmps97]
    repeat' first
      | apply AW.seq | apply AW.region | apply AW.ret | apply AW.block | apply AW.skip | apply AW.exit | apply AW.scope | apply AW.label | apply AWL.nil | apply D.nil
      | refine W.draw cx_mixed (by decide +kernel) ?_
      | ((first | (apply W.step cx_ok; decide) | (apply D.step cx_ok; decide; decide) | apply AW.cond); (simp (disch := omega) only [push_cast, simprocAttr, hl'] <;> rfl); all_goals try ((with_reducible intro hI); try first | (cases hI; done) | (simp only [INTS] at hI; try first | (exfalso; omega) | (have hT : True := hI; clear hT hI))))
      | ((first | apply W.ret1 | apply W.end1); (iterate 2 (try (simp (disch := omega) only [push_cast, simprocAttr, hl'] <;> rfl))))
    all_goals (show _ = _; refine congrArg (fun b => AV.v (Value.bool b)) ?_; symm; rw [decide_eq_false_iff_not]; intro he; exact hl (by rw [he]))
def checkLabH (h : House) (a t : Int) (l : List Int) : Int := if roomE h a t ≠ 0 then roomE h a t else if (arrH h a.toNat t).1 = l then 0 else 8
theorem CheckLabels_ok (h : House) (n0 t : Int) (l : List Int) (hfit : h.Fit) (hll : l.length ≤ 1099511627776) : OKv cx 50 [.agg (eHouse h), ai n0, ai t, lInt l] (ai (checkLabH h n0 t l)) := by
  by_cases he : roomE h n0 t = 0
  · obtain ⟨hc, hn, ht⟩ := roomE_zero he
    unfold timeOK at ht
    have hrl := hfit.rooms
    have hla : (arrH h n0.toNat t).1.length ≤ 1099511627776 := by rw [(arrH_len h n0.toNat t).1]; omega
    by_cases hq : (arrH h n0.toNat t).1 = l
    · have hE : checkLabH h n0 t l = 0 := by unfold checkLabH; rw [if_neg (by simp [he]), if_pos hq]
      have hD : decide ((arrH h n0.toNat t).1 = l) = true := decide_eq_true hq
      refine OKat.of_body (rs := [8]) Tryd.func50 rfl (by decide +kernel) rfl (by simp [Tryd.ntmps50]) ?_
      simp only [Tryd.ntmps50]
      repeat' first
        | apply AW.seq | apply AW.region | apply AW.ret | apply AW.block | apply AW.skip | apply AW.exit | apply AW.scope | apply AW.label | apply AWL.nil
        | ((first | (apply W.step cx_ok; decide) | apply AW.cond); (simp (disch := omega) only [push_cast, simprocAttr, he, hD] <;> rfl); all_goals try ((with_reducible intro hI); try first | (cases hI; done) | (simp only [INTS] at hI; try first | (exfalso; omega) | (have hT : True := hI; clear hT hI))))
        | ((apply W.callv cx_ok; decide); (iterate 2 (simp (disch := omega) only [push_cast, simprocAttr, he, hD] <;> rfl)); (with_reducible first | exact askedOneR_ok _ _ _ hfit | exact arrivals_ok h n0 t hfit (Check_V hc) hn ht | exact Equal_ok _ _ hla hll); try first | rfl | (simp (disch := omega) only [push_cast, simprocAttr, he, hD] <;> rfl))
        | ((first | apply W.ret1 | apply W.end1); (iterate 2 (try (simp (disch := omega) only [push_cast, simprocAttr, he, hD] <;> rfl))))
      all_goals (show _ = _; rw [hE])
    · have hE : checkLabH h n0 t l = 8 := by unfold checkLabH; rw [if_neg (by simp [he]), if_neg hq]
      have hD : decide ((arrH h n0.toNat t).1 = l) = false := decide_eq_false hq
      refine OKat.of_body (rs := [8]) Tryd.func50 rfl (by decide +kernel) rfl (by simp [Tryd.ntmps50]) ?_
      simp only [Tryd.ntmps50]
      repeat' first
        | apply AW.seq | apply AW.region | apply AW.ret | apply AW.block | apply AW.skip | apply AW.exit | apply AW.scope | apply AW.label | apply AWL.nil
        | ((first | (apply W.step cx_ok; decide) | apply AW.cond); (simp (disch := omega) only [push_cast, simprocAttr, he, hD] <;> rfl); all_goals try ((with_reducible intro hI); try first | (cases hI; done) | (simp only [INTS] at hI; try first | (exfalso; omega) | (have hT : True := hI; clear hT hI))))
        | ((apply W.callv cx_ok; decide); (iterate 2 (simp (disch := omega) only [push_cast, simprocAttr, he, hD] <;> rfl)); (with_reducible first | exact askedOneR_ok _ _ _ hfit | exact arrivals_ok h n0 t hfit (Check_V hc) hn ht | exact Equal_ok _ _ hla hll); try first | rfl | (simp (disch := omega) only [push_cast, simprocAttr, he, hD] <;> rfl))
        | ((first | apply W.ret1 | apply W.end1); (iterate 2 (try (simp (disch := omega) only [push_cast, simprocAttr, he, hD] <;> rfl))))
      all_goals (show _ = _; rw [hE])
  · have hE : checkLabH h n0 t l = roomE h n0 t := if_pos he
    refine OKat.of_body (rs := [8]) Tryd.func50 rfl (by decide +kernel) rfl (by simp [Tryd.ntmps50]) ?_
    simp only [Tryd.ntmps50]
    repeat' first
      | apply AW.seq | apply AW.region | apply AW.ret | apply AW.block | apply AW.skip | apply AW.exit | apply AW.scope | apply AW.label | apply AWL.nil
      | ((first | (apply W.step cx_ok; decide) | apply AW.cond); (simp (disch := omega) only [push_cast, simprocAttr, he] <;> rfl); all_goals try ((with_reducible intro hI); try first | (cases hI; done) | (simp only [INTS] at hI; try first | (exfalso; omega) | (have hT : True := hI; clear hT hI))))
      | ((apply W.callv cx_ok; decide); (iterate 2 (simp (disch := omega) only [push_cast, simprocAttr, he] <;> rfl)); (with_reducible first | exact askedOneR_ok _ _ _ hfit); try first | rfl | (simp (disch := omega) only [push_cast, simprocAttr, he] <;> rfl))
      | ((first | apply W.ret1 | apply W.end1); (iterate 2 (try (simp (disch := omega) only [push_cast, simprocAttr, he] <;> rfl))))
    all_goals (show _ = _; rw [hE])

end Go.Proofs.Hs

set_option maxHeartbeats 8000000
set_option linter.unusedSimpArgs false
set_option linter.unusedVariables false
set_option maxRecDepth 10000
namespace Go.Proofs.Hs
open Go Go.Pg Go.Proofs

theorem wrapU {n : Int} : IntKind.wrap .u64 n = n % 18446744073709551616 := by simp [IntKind.wrap, IntKind.signed, IntKind.bits]
theorem modN {a b : Int} (h : 0 ≤ a ∧ a < b) : a % b = a := Int.emod_eq_of_lt h.1 h.2
/-- An index of one of some things. -/
def someN (n k : Int) : Int := (n % 18446744073709551616) % k
theorem someN_lt (n : Int) {k : Int} (hk : 1 ≤ k) : 0 ≤ someN n k ∧ someN n k < k := ⟨Int.emod_nonneg _ (by omega), Int.emod_lt_of_pos _ (by omega)⟩
theorem some_ok (n k : Int) (hk : 1 ≤ k ∧ k ≤ 1099511627776) : OKv cx 47 [ai n, ai k] (ai (someN n k)) := by
  have hm0 : 0 ≤ n % 18446744073709551616 := Int.emod_nonneg _ (by decide)
  have hlt := someN_lt n (k := k) (by omega)
  have hS : (n % 18446744073709551616) % k = someN n k := rfl
  have hmx : max k 1 = k := by omega
  have hkw : k % 18446744073709551616 = k := modN (by omega)
  have hk0 : (k = 0) = False := eq_false (by omega)
  refine OKat.of_body (rs := [4]) Tryd.func47 rfl (by decide +kernel) rfl (by simp [Tryd.ntmps47]) ?_
  simp only [Tryd.ntmps47]
  repeat' first
    | apply AW.seq | apply AW.region | apply AW.ret | apply AW.block | apply AW.skip | apply AW.exit | apply AW.scope | apply AW.label | apply AWL.nil
    | ((first | (apply W.step cx_ok; decide) | apply AW.cond); (simp (disch := omega) only [push_cast, simprocAttr, wrapU, hmx, hkw, hS, hk0] <;> rfl); all_goals try ((with_reducible intro hI); try first | (cases hI; done) | (simp only [INTS] at hI; try first | (exfalso; omega) | (have hT : True := hI; clear hT hI))))
    | ((first | apply W.ret1 | apply W.end1); (iterate 2 (try (simp (disch := omega) only [push_cast, simprocAttr, wrapU, hmx, hkw, hS, hk0] <;> rfl))))
  all_goals (show _ = _; rfl)
theorem right_ok (h : House) (hn : ∀ r ∈ h.rooms, r.name.size ≤ 9223372036854775807) : OKv cx 45 [.agg (eHouse h)] (ab (few h && decide ((Check h).1 = 0))) := by
  by_cases hf : few h = true
  · have hfit := few_fit hf hn
    refine OKat.of_body (rs := [2]) Tryd.func45 rfl (by decide +kernel) rfl (by simp [Tryd.ntmps45]) ?_
    simp only [Tryd.ntmps45]
    repeat' first
      | apply AW.seq | apply AW.region | apply AW.ret | apply AW.block | apply AW.skip | apply AW.exit | apply AW.scope | apply AW.label | apply AWL.nil
      | ((first | (apply W.step cx_ok; decide) | (apply W.gS; rfl; decide) | apply AW.cond); (simp (disch := omega) only [push_cast, simprocAttr, hf] <;> rfl); all_goals try ((with_reducible intro hI); try first | (cases hI; done) | (simp only [INTS] at hI; try first | (exfalso; omega) | (have hT : True := hI; clear hT hI))))
      | ((apply W.callv cx_ok; decide); (iterate 2 (simp (disch := omega) only [push_cast, simprocAttr, hf] <;> rfl)); (with_reducible first | exact few_ok _ | exact Error_ok _ hfit); try first | rfl | (simp (disch := omega) only [push_cast, simprocAttr, hf] <;> rfl))
      | ((first | apply W.ret1 | apply W.end1); (iterate 2 (try (simp (disch := omega) only [push_cast, simprocAttr, hf] <;> rfl))))
    all_goals (show _ = _; first | rfl | (simp_all; done))
  · have hf' : few h = false := by simpa using hf
    refine OKat.of_body (rs := [2]) Tryd.func45 rfl (by decide +kernel) rfl (by simp [Tryd.ntmps45]) ?_
    simp only [Tryd.ntmps45]
    repeat' first
      | apply AW.seq | apply AW.region | apply AW.ret | apply AW.block | apply AW.skip | apply AW.exit | apply AW.scope | apply AW.label | apply AWL.nil
      | ((first | (apply W.step cx_ok; decide) | (apply W.gS; rfl; decide) | apply AW.cond); (simp (disch := omega) only [push_cast, simprocAttr, hf'] <;> rfl); all_goals try ((with_reducible intro hI); try first | (cases hI; done) | (simp only [INTS] at hI; try first | (exfalso; omega) | (have hT : True := hI; clear hT hI))))
      | ((apply W.callv cx_ok; decide); (iterate 2 (simp (disch := omega) only [push_cast, simprocAttr, hf'] <;> rfl)); (with_reducible first | exact few_ok _); try first | rfl | (simp (disch := omega) only [push_cast, simprocAttr, hf'] <;> rfl))
      | ((first | apply W.ret1 | apply W.end1); (iterate 2 (try (simp (disch := omega) only [push_cast, simprocAttr, hf'] <;> rfl))))
    all_goals (show _ = _; first | rfl | (simp_all; done))
open Lab in
theorem nowall {h : House} (hv : h.V) {a ta b tb : Int} {l : List Int} (ha : 0 ≤ a ∧ a < (h.rooms.length : Int)) (hb : 0 ≤ b ∧ b < (h.rooms.length : Int)) (ht : 0 ≤ ta ∧ ta ≤ 1073741823) (hle : (arrH h a.toNat ta).1.getD b.toNat 0 ≤ tb) : isWall h a ta b tb l = false := by
  cases hq : isWall h a ta b tb l with
  | false => rfl
  | true =>
    obtain ⟨h1, h2, h3, h4⟩ := (isWall_iff hv ha hb).1 hq
    rw [arrH_eq hv ha ht] at hle
    obtain ⟨hl, hi⟩ := arrR_is hv (a := a.toNat) (by omega) (t := ta) (by omega)
    have h5 : (arrN h).lab l b.toNat ≤ (arrN h).lab (arrR h a.toNat ta) b.toNat := hi.most (arrN_ok hv) h2 h3 b.toNat
    rw [getD_lab (row := arrR h a.toNat ta) (by omega)] at h5
    omega
theorem canBack {h : House} (hv : h.V) {a ta b tb : Int} (ha : 0 ≤ a ∧ a < (h.rooms.length : Int)) (hb : 0 ≤ b ∧ b < (h.rooms.length : Int)) (ht : 0 ≤ ta ∧ ta ≤ 1073741823) (hu : 0 ≤ tb ∧ tb ≤ 1073741823) : (arrH h a.toNat ta).1.getD b.toNat 0 ≤ tb ↔ ta ≤ (late h b.toNat tb).getD a.toNat 0 := by
  rw [arrH_eq hv ha ht, late_is hv (by omega) hu]
  exact arr_dep hv (by omega) (by omega) ht hu

end Go.Proofs.Hs
