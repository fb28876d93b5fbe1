/-
  Tours and the nearest room: plain. No conditions.
-/
import Derived.Test.YtofdhddbfjfkcaaDoorHe
import Derived.Test.YtofdhddbfjfkcaaDoorVc
import Derived.Test.YtofdhddbfjfkcaaDoorVd
set_option linter.unusedSimpArgs false
set_option linter.unusedVariables false
namespace Go.Proofs.Hs
open Go Go.Pg Go.Proofs Go.Proofs.Lab

/-- When one has been in some rooms, in their order. -/
def tourL (h : House) : Int → List Int → Int → Int
  | _, [], t => t
  | p, b :: rest, t => if t = 1073741824 then t else tourL h b rest ((arrR h p.toNat t).getD b.toNat 0)
def isRoom (h : House) (n : Int) : Prop := 0 ≤ n ∧ n < (h.rooms.length : Int)
theorem arr_at {h : House} (hv : h.V) {p b : Int} (hp : isRoom h p) (hb : isRoom h b) {t : Int} (ht : 0 ≤ t ∧ t ≤ 1073741824) : t ≤ (arrR h p.toNat t).getD b.toNat 0 ∧ (arrR h p.toNat t).getD b.toNat 0 ≤ 1073741824 := by
  unfold isRoom at hp hb
  obtain ⟨hl, hi⟩ := arrR_is hv (a := p.toNat) (by omega) ht
  obtain ⟨s1, s2⟩ := arr_self hv (a := p.toNat) (by omega) ht
  rw [← getD_lab (N := arrN h) (by omega)]
  exact ⟨s2 _, (hi.closed.In _).2⟩
theorem tour_in {h : House} (hv : h.V) : ∀ (l : List Int) (p t : Int), isRoom h p → (∀ x ∈ l, isRoom h x) → (0 ≤ t ∧ t ≤ 1073741824) → t ≤ tourL h p l t ∧ tourL h p l t ≤ 1073741824
  | [], _, t, _, _, ht => ⟨Int.le_refl _, ht.2⟩
  | b :: l, p, t, hp, hl, ht => by
    unfold tourL
    split
    · exact ⟨Int.le_refl _, ht.2⟩
    · have h1 := arr_at hv hp (hl b (by simp)) ht
      have := tour_in hv l b _ (hl b (by simp)) (fun x hx => hl x (by simp [hx])) ⟨by omega, h1.2⟩
      omega
theorem arr_monoD {h : House} (hv : h.V) {p b : Int} (hp : isRoom h p) (hb : isRoom h b) {t u : Int} (h0 : 0 ≤ t) (htu : t ≤ u) (hu : u ≤ 1073741824) : (arrR h p.toNat t).getD b.toNat 0 ≤ (arrR h p.toNat u).getD b.toNat 0 := by
  unfold isRoom at hp hb
  obtain ⟨l1, _⟩ := arrR_is hv (a := p.toNat) (by omega) (t := t) (by omega)
  obtain ⟨l2, _⟩ := arrR_is hv (a := p.toNat) (by omega) (t := u) (by omega)
  have := arr_mono hv (a := p.toNat) (by omega) h0 htu hu b.toNat
  rwa [getD_lab (by omega), getD_lab (by omega)] at this
theorem tour_mono {h : House} (hv : h.V) : ∀ (l : List Int) (p t u : Int), isRoom h p → (∀ x ∈ l, isRoom h x) → 0 ≤ t → t ≤ u → u ≤ 1073741824 → tourL h p l t ≤ tourL h p l u
  | [], _, _, _, _, _, _, htu, _ => htu
  | b :: l, p, t, u, hp, hl, h0, htu, hu => by
    have hlb := hl b (by simp)
    have hl' : ∀ x ∈ l, isRoom h x := fun x hx => hl x (by simp [hx])
    by_cases hun : u = 1073741824
    · have h1 := (tour_in hv (b :: l) p t hp hl ⟨h0, by omega⟩).2
      have h2 : tourL h p (b :: l) u = u := by unfold tourL; rw [if_pos hun]
      omega
    · unfold tourL
      rw [if_neg (by omega), if_neg hun]
      have h1 := arr_at hv hp hlb (t := t) ⟨h0, by omega⟩
      have h2 := arr_at hv hp hlb (t := u) ⟨by omega, hu⟩
      exact tour_mono hv l b _ _ hlb hl' (by omega) (arr_monoD hv hp hlb h0 htu hu) h2.2
/-- .. with the errors. -/
def tourH (h : House) (rooms : List Int) (t : Int) : Int × Int :=
  if (Check h).1 ≠ 0 then (0, (Check h).1) else if rooms.length = 0 then (0, 1) else if 60 < rooms.length then (0, 2) else
  if askedE h rooms [t] ≠ 0 then (0, askedE h rooms [t]) else (tourL h (rooms.getD 0 0) rooms.tail t, 0)
theorem askedE_zero {h : House} {rs ts : List Int} (he : askedE h rs ts = 0) : (Check h).1 = 0 ∧ (∀ r ∈ rs, isRoom h r) ∧ ∀ t ∈ ts, 0 ≤ t ∧ t ≤ 1073741823 := by
  unfold askedE at he
  split at he
  · rename_i hc; exact absurd he hc
  · rename_i hc
    split at he
    · rename_i hr
      split at he
      · rename_i ht
        refine ⟨by simpa using hc, fun r hr' => ?_, fun t ht' => ?_⟩
        · have := List.all_eq_true.1 hr r hr'
          simp only [roomB, Bool.and_eq_true, decide_eq_true_eq] at this
          exact this
        · have := List.all_eq_true.1 ht t ht'
          simp only [timeB, Bool.and_eq_true, decide_eq_true_eq] at this
          exact this
      · cases he
    · cases he
theorem askedE_timeEq {h : House} {rs : List Int} {t u : Int} (ht : 0 ≤ t ∧ t ≤ 1073741823) (hu : 0 ≤ u ∧ u ≤ 1073741823) : askedE h rs [t] = askedE h rs [u] := by
  have h1 : timeB t = true := by simp only [timeB, Bool.and_eq_true, decide_eq_true_eq]; exact ht
  have h2 : timeB u = true := by simp only [timeB, Bool.and_eq_true, decide_eq_true_eq]; exact hu
  unfold askedE
  simp only [List.all_cons, List.all_nil, h1, h2]
theorem tourH_mono {h : House} {rooms : List Int} {t u : Int} (ht : 0 ≤ t ∧ t ≤ 1073741823) (hu : 0 ≤ u ∧ u ≤ 1073741823) (htu : t ≤ u) : (tourH h rooms t).2 = (tourH h rooms u).2 ∧ (tourH h rooms t).1 ≤ (tourH h rooms u).1 := by
  unfold tourH
  rw [askedE_timeEq (h := h) (rs := rooms) ht hu]
  split
  · exact ⟨rfl, Int.le_refl _⟩
  · split
    · exact ⟨rfl, Int.le_refl _⟩
    · rename_i hc hl
      split
      · exact ⟨rfl, Int.le_refl _⟩
      · split
        · exact ⟨rfl, Int.le_refl _⟩
        · rename_i he
          obtain ⟨h1, h2, _⟩ := askedE_zero (h := h) (rs := rooms) (ts := [u]) (by simpa using he)
          refine ⟨rfl, ?_⟩
          cases rooms with
          | nil => simp at hl
          | cons p l => exact tour_mono (Check_V h1) l p t u (h2 p (by simp)) (fun x hx => h2 x (by simp [hx])) ht.1 htu (by omega)

/-! ## The nearest -/
def nearC (n r : Int) (p : Int × Int) : Bool := decide (n < p.2) || (decide (n = p.2) && (decide (p.2 ≠ 1073741824) && decide (r < p.1)))
def nearL (X : List Int) : List Int → Int × Int → Int × Int
  | [], p => p
  | r :: rest, p => nearL X rest (if nearC (X.getD r.toNat 0) r p = true then (r, X.getD r.toNat 0) else p)
def nearH (h : House) (n t : Int) (rooms : List Int) : Int × Int × Int :=
  if askedE h (n :: rooms) [t] ≠ 0 then (0, 0, askedE h (n :: rooms) [t]) else
  if (nearL (arrR h n.toNat t) rooms (-1, 1073741824)).1 < 0 then (0, 0, 5) else
  ((nearL (arrR h n.toNat t) rooms (-1, 1073741824)).1, (nearL (arrR h n.toNat t) rooms (-1, 1073741824)).2, 0)
end Go.Proofs.Hs

set_option maxHeartbeats 8000000
set_option linter.unusedSimpArgs false
set_option linter.unusedVariables false
set_option maxRecDepth 10000
namespace Go.Proofs.Hs
open Go Go.Pg Go.Proofs

theorem asked_lit (h : House) (rooms : List Int) (t : Int) (hfit : h.Fit) (hrm : rooms.length ≤ 1099511627776) : OKv cx 74 [.agg (eHouse h), lInt rooms, .lst [[ai t]]] (ai (askedE h rooms [t])) := asked_ok h rooms [t] hfit hrm (by simp)
theorem asked_one {h : House} {rs ts : List Int} (hc : (Check h).1 = 0) (he : ¬ askedE h rs ts = 0) : askedE h rs ts = 1 := by
  unfold askedE at he ⊢
  rw [if_neg (by simp [hc])] at he ⊢
  split
  · rename_i h1
    rw [if_pos h1] at he
    split
    · rename_i h2; rw [if_pos h2] at he; exact absurd rfl he
    · rfl
  · rfl
theorem room_one {h : House} {r t : Int} (hc : (Check h).1 = 0) (he : ¬ roomE h r t = 0) : roomE h r t = 1 := by
  unfold roomE at he ⊢
  rw [if_neg (by simp [hc])] at he ⊢
  split
  · rfl
  · rename_i h1; rw [if_neg h1] at he; exact absurd rfl he
theorem asked_bad {h : House} {rs : List Int} {t : Int} (hc : (Check h).1 = 0) (h0 : 1 ≤ rs.length) (he : ¬ askedE h rs [t] = 0) : ∃ r ∈ rs, roomE h r t ≠ 0 := by
  refine Classical.byContradiction fun hno => he ?_
  have hall : ∀ r ∈ rs, roomE h r t = 0 := fun r hr => Classical.byContradiction fun hq => hno ⟨r, hr, hq⟩
  have hz : ∀ r ∈ rs, roomB h r = true ∧ timeB t = true := fun r hr => by
    obtain ⟨_, h1, h2⟩ := roomE_zero (hall r hr)
    unfold timeOK at h2
    simp only [roomB, timeB, Bool.and_eq_true, decide_eq_true_eq]
    exact ⟨h1, h2⟩
  unfold askedE
  rw [if_neg (by simp [hc]), if_pos (List.all_eq_true.2 fun r hr => (hz r hr).1)]
  cases rs with
  | nil => simp at h0
  | cons r rs => simp [(hz r (by simp)).2]
theorem Tour_ok (h : House) (rooms : List Int) (t : Int) (hfit : h.Fit) (hrm : rooms.length ≤ 1099511627776) : OKv cx 61 [.agg (eHouse h), lInt rooms, ai t] (.tup [ai (tourH h rooms t).1, ai (tourH h rooms t).2]) := by
  by_cases hc : (Check h).1 = 0
  · have hv := Check_V hc
    have hrl := hv.rooms
    by_cases h0 : rooms.length = 0
    · have h0' : (rooms.length : Int) = 0 := by omega
      have hE : tourH h rooms t = (0, 1) := by unfold tourH; rw [if_neg (by simp [hc]), if_pos h0]
      refine OKat.of_body (rs := [6, 7]) Tryd.func61 rfl (by decide +kernel) rfl (by simp [Tryd.ntmps61]) ?_
      simp only [Tryd.ntmps61]
      repeat' first
        | apply AW.seq | apply AW.region | apply AW.ret | apply AW.block | apply AW.skip | apply AW.exit | apply AW.scope | apply AW.label | apply AWL.nil | apply D.nil
        | refine W.draw cx_mixed (by decide +kernel) ?_
        | ((first | (apply W.step cx_ok; decide) | (apply D.step cx_ok; decide; decide) | (apply W.gS; rfl; decide) | (apply D.gS; rfl; decide; decide) | apply AW.cond); (simp (disch := omega) only [push_cast, simprocAttr, hc, h0'] <;> rfl); all_goals try ((with_reducible intro hI); try first | (cases hI; done) | (simp only [INTS] at hI; try first | (exfalso; omega) | (have hT : True := hI; clear hT hI))))
        | ((first | (apply W.callv cx_ok; decide) | (apply D.callv cx_ok; decide; decide)); (iterate 2 (simp (disch := omega) only [push_cast, simprocAttr, hc, h0'] <;> rfl)); (with_reducible first | exact Check_ok _ hfit | exact asked_ok h rooms [t] hfit (by omega) (by simp)); try first | rfl | (simp (disch := omega) only [push_cast, simprocAttr, hc, h0'] <;> rfl))
        | ((first | apply W.ret2 | apply W.end2); (iterate 2 (try (simp (disch := omega) only [push_cast, simprocAttr, hc, h0'] <;> rfl))))
      all_goals (show _ = _; rw [hE])
    · have h0' : ((rooms.length : Int) = 0) = False := eq_false (by omega)
      by_cases h60 : 60 < rooms.length
      · have h60' : 60 < (rooms.length : Int) := by omega
        have hE : tourH h rooms t = (0, 2) := by unfold tourH; rw [if_neg (by simp [hc]), if_neg h0, if_pos h60]
        refine OKat.of_body (rs := [6, 7]) Tryd.func61 rfl (by decide +kernel) rfl (by simp [Tryd.ntmps61]) ?_
        simp only [Tryd.ntmps61]
        repeat' first
          | apply AW.seq | apply AW.region | apply AW.ret | apply AW.block | apply AW.skip | apply AW.exit | apply AW.scope | apply AW.label | apply AWL.nil | apply D.nil
          | refine W.draw cx_mixed (by decide +kernel) ?_
          | ((first | (apply W.step cx_ok; decide) | (apply D.step cx_ok; decide; decide) | (apply W.gS; rfl; decide) | (apply D.gS; rfl; decide; decide) | apply AW.cond); (simp (disch := omega) only [push_cast, simprocAttr, hc, h0', h60'] <;> rfl); all_goals try ((with_reducible intro hI); try first | (cases hI; done) | (simp only [INTS] at hI; try first | (exfalso; omega) | (have hT : True := hI; clear hT hI))))
          | ((first | (apply W.callv cx_ok; decide) | (apply D.callv cx_ok; decide; decide)); (iterate 2 (simp (disch := omega) only [push_cast, simprocAttr, hc, h0', h60'] <;> rfl)); (with_reducible first | exact Check_ok _ hfit | exact asked_ok h rooms [t] hfit (by omega) (by simp)); try first | rfl | (simp (disch := omega) only [push_cast, simprocAttr, hc, h0', h60'] <;> rfl))
          | ((first | apply W.ret2 | apply W.end2); (iterate 2 (try (simp (disch := omega) only [push_cast, simprocAttr, hc, h0', h60'] <;> rfl))))
        all_goals (show _ = _; rw [hE])
      · have h60' : ¬ 60 < (rooms.length : Int) := by omega
        by_cases he : askedE h rooms [t] = 0
        · obtain ⟨_, hrr, htt⟩ := askedE_zero he
          have ht := htt t (by simp)
          have hE : tourH h rooms t = (tourL h (rooms.getD 0 0) rooms.tail t, 0) := by unfold tourH; rw [if_neg (by simp [hc]), if_neg h0, if_neg h60, if_neg (by simp [he])]
          have hr0 : isRoom h (rooms.getD 0 0) := hrr _ (List.mem_of_getElem? (getD_set' rooms 0 0 (by omega)))
          refine OKat.of_body (rs := [6, 7]) Tryd.func61 rfl (by decide +kernel) rfl (by simp [Tryd.ntmps61]) ?_
          simp only [Tryd.ntmps61]
          repeat' first
            | apply AW.seq | apply AW.region | apply AW.ret | apply AW.block | apply AW.skip | apply AW.exit | apply AW.scope | apply AW.label | apply AWL.nil | apply D.nil
            | refine W.draw cx_mixed (by decide +kernel) ?_
            | ((first | (apply W.step cx_ok; decide) | (apply D.step cx_ok; decide; decide) | (apply W.gS; rfl; decide) | (apply D.gS; rfl; decide; decide) | apply AW.cond); (simp (disch := omega) only [push_cast, simprocAttr, hc, h0', h60', he] <;> rfl); all_goals try ((with_reducible intro hI); try first | (cases hI; done) | (simp only [INTS] at hI; try first | (exfalso; omega) | (have hT : True := hI; clear hT hI))))
            | ((first | (apply W.callv cx_ok; decide) | (apply D.callv cx_ok; decide; decide)); (iterate 2 (simp (disch := omega) only [push_cast, simprocAttr, hc, h0', h60', he] <;> rfl)); (with_reducible first | exact Check_ok _ hfit | exact asked_lit h rooms t hfit hrm); try first | rfl | (simp (disch := omega) only [push_cast, simprocAttr, hc, h0', h60', he] <;> rfl))
            | ((first | apply W.ret2 | apply W.end2); (iterate 2 (try (simp (disch := omega) only [push_cast, simprocAttr, hc, h0', h60', he] <;> rfl))))
          refine AW.loop (fun n s => ∃ (k : Nat) (p tt : Int) (rest : List Int), n = rest.length ∧ (1 ≤ k ∧ rooms.drop k = rest) ∧ (rooms.getD (k - 1) 0 = p) ∧ (isRoom h p) ∧ (0 ≤ tt ∧ tt ≤ 1073741824) ∧ (tourL h p rest tt = tourL h (rooms.getD 0 0) rooms.tail t) ∧ 1 ≤ s.nx ∧ s.tm 1 = lInt rooms ∧ s.tm 2 = ai tt ∧ s.tm 3 = .ptr 0 0 0 1 ∧ s.tm 11 = ai k ∧ Pg.rowAt s.H (0) = some ({ k := 3, es := [eHouse h], ty := 26 })) (rooms.tail.length) ⟨1, rooms.getD 0 0, t, rooms.tail, rfl, ⟨Nat.le_refl _, List.drop_one⟩, rfl, hr0, (by omega), rfl, ?_, ?_, ?_, ?_, ?_, ?_⟩ ?_
          iterate 6 (first | (simp (disch := omega) only [push_cast, simprocAttr, hc, h0', h60', he] <;> first | rfl | omega) | omega)
          rintro n s ⟨k, p, tt, rest, hn, hp0, hp1, hp2, hp3, hp4, hnl, hS⟩
          have hZ : (0 : Nat) ≠ s.nx ∧ s.nx ≠ (0 : Nat) := by omega
          rcases rest with _ | ⟨x, rest⟩
          · have hk := drop_nil hp0.2
            repeat' first
              | apply AW.seq | apply AW.region | apply AW.ret | apply AW.block | apply AW.skip | apply AW.exit | apply AW.scope | apply AW.label | apply AWL.nil | apply D.nil
              | refine W.draw cx_mixed (by decide +kernel) ?_
              | ((first | (apply W.step cx_ok; decide) | (apply D.step cx_ok; decide; decide) | (apply W.gS; rfl; decide) | (apply D.gS; rfl; decide; decide) | apply AW.cond); (simp (disch := omega) only [push_cast, simprocAttr, hS, hZ, hk] <;> rfl); all_goals try ((with_reducible intro hI); try first | (cases hI; done) | (simp only [INTS] at hI; try first | (exfalso; omega) | (have hT : True := hI; clear hT hI))))
              | ((first | apply W.ret2 | apply W.end2); (iterate 2 (try (simp (disch := omega) only [push_cast, simprocAttr, hS, hZ, hk] <;> rfl))))
            all_goals (show _ = _; rw [hE, ← hp4]; rfl)
          · obtain ⟨hk, hg, hd', hl', hm, hx⟩ := drop_cons hp0.2 eInt []
            have hxr := hrr x hm
            by_cases htn : tt = 1073741824
            · have htn' : (tt = 1073741824) = True := eq_true htn
              repeat' first
                | apply AW.seq | apply AW.region | apply AW.ret | apply AW.block | apply AW.skip | apply AW.exit | apply AW.scope | apply AW.label | apply AWL.nil | apply D.nil
                | refine W.draw cx_mixed (by decide +kernel) ?_
                | ((first | (apply W.step cx_ok; decide) | (apply D.step cx_ok; decide; decide) | (apply W.gS; rfl; decide) | (apply D.gS; rfl; decide; decide) | apply AW.cond); (simp (disch := omega) only [push_cast, simprocAttr, hS, hZ, hk, htn'] <;> rfl); all_goals try ((with_reducible intro hI); try first | (cases hI; done) | (simp only [INTS] at hI; try first | (exfalso; omega) | (have hT : True := hI; clear hT hI))))
                | ((first | apply W.ret2 | apply W.end2); (iterate 2 (try (simp (disch := omega) only [push_cast, simprocAttr, hS, hZ, hk, htn'] <;> rfl))))
              all_goals (show _ = _; rw [hE, ← hp4, tourL, if_pos htn])
            · have htn' : (tt = 1073741824) = False := eq_false htn
              have htb : 0 ≤ tt ∧ tt ≤ 1073741823 := by have := hp3; omega
              have hk1 := hp0.1
              have hkm0 : (0 : Int) ≤ (k : Int) - 1 := by omega
              have hkm1 : (k : Int) - 1 < (rooms.length : Int) := by omega
              have hkm2 : ((k : Int) - 1).toNat < rooms.length := by omega
              have hgp : rooms.getD ((k : Int) - 1).toNat 0 = p := by rw [← hp1]; congr 1; omega
              have hpr := hp2
              unfold isRoom at hpr hxr
              obtain ⟨X, hX⟩ : ∃ y, arrR h p.toNat tt = y := ⟨_, rfl⟩
              have hXl : X.length = h.rooms.length := by rw [← hX]; exact (arrR_is hv (a := p.toNat) (by omega) (t := tt) (by omega)).1
              have hXb := arr_at hv (p := p) (b := x) hpr hxr (t := tt) (by omega)
              rw [hX] at hXb
              have hao := arrivals_ok h p tt hfit hv hpr htb
              rw [arrH_eq hv hpr htb, hX] at hao
              have c1 := hxr.1
              have c2 : x < (X.length : Int) := by omega
              have c3 : x.toNat < X.length := by omega
              have c4 : k < rooms.length := by omega
              repeat' first
                | apply AW.seq | apply AW.region | apply AW.ret | apply AW.block | apply AW.skip | apply AW.exit | apply AW.scope | apply AW.label | apply AWL.nil | apply D.nil
                | refine W.draw cx_mixed (by decide +kernel) ?_
                | ((first | (apply W.step cx_ok; decide) | (apply D.step cx_ok; decide; decide) | (apply W.gS; rfl; decide) | (apply D.gS; rfl; decide; decide) | apply AW.cond); (simp (disch := omega) only [push_cast, simprocAttr, hS, hZ, hk, hg, htn', hkm0, hkm1, hkm2, hgp, c1, c2, c3] <;> rfl); all_goals try ((with_reducible intro hI); try first | (cases hI; done) | (simp only [INTS] at hI; try first | (exfalso; omega) | (have hT : True := hI; clear hT hI))))
                | ((first | (apply W.callv cx_ok; decide) | (apply D.callv cx_ok; decide; decide)); (iterate 2 (simp (disch := omega) only [push_cast, simprocAttr, hS, hZ, hk, hg, htn', hkm0, hkm1, hkm2, hgp, c1, c2, c3] <;> rfl)); (with_reducible first | exact hao); try first | rfl | (simp (disch := omega) only [push_cast, simprocAttr, hS, hZ, hk, hg, htn', hkm0, hkm1, hkm2, hgp, c1, c2, c3] <;> rfl))
                | ((first | apply W.ret2 | apply W.end2); (iterate 2 (try (simp (disch := omega) only [push_cast, simprocAttr, hS, hZ, hk, hg, htn', hkm0, hkm1, hkm2, hgp, c1, c2, c3] <;> rfl))))
              all_goals
                (rw [tourL, if_neg htn, hX] at hp4
                 (refine ⟨rest.length, ?_, k + 1, x, X.getD x.toNat 0, rest, rfl, ⟨(by omega), hd'⟩, (by rw [Nat.add_sub_cancel]; rw [List.getD_eq_getElem?_getD, List.getElem?_eq_getElem c4]; have hq := hx; rw [List.getElem?_map, List.getElem?_eq_getElem c4] at hq; simpa using hq), (by unfold isRoom; omega), (by omega), hp4, ?_, ?_, ?_, ?_, ?_, ?_⟩; ((simp only [List.length_cons] at *; omega)); all_goals first | (simp (disch := omega) only [push_cast, simprocAttr, hS, hZ, hg, hk, hkm0, hkm1, hkm2, hgp, c1, c2, c3] <;> first | rfl | omega) | omega))
        · have hE : tourH h rooms t = (0, askedE h rooms [t]) := by unfold tourH; rw [if_neg (by simp [hc]), if_neg h0, if_neg h60, if_pos he]
          refine OKat.of_body (rs := [6, 7]) Tryd.func61 rfl (by decide +kernel) rfl (by simp [Tryd.ntmps61]) ?_
          simp only [Tryd.ntmps61]
          repeat' first
            | apply AW.seq | apply AW.region | apply AW.ret | apply AW.block | apply AW.skip | apply AW.exit | apply AW.scope | apply AW.label | apply AWL.nil | apply D.nil
            | refine W.draw cx_mixed (by decide +kernel) ?_
            | ((first | (apply W.step cx_ok; decide) | (apply D.step cx_ok; decide; decide) | (apply W.gS; rfl; decide) | (apply D.gS; rfl; decide; decide) | apply AW.cond); (simp (disch := omega) only [push_cast, simprocAttr, hc, h0', h60', he] <;> rfl); all_goals try ((with_reducible intro hI); try first | (cases hI; done) | (simp only [INTS] at hI; try first | (exfalso; omega) | (have hT : True := hI; clear hT hI))))
            | ((first | (apply W.callv cx_ok; decide) | (apply D.callv cx_ok; decide; decide)); (iterate 2 (simp (disch := omega) only [push_cast, simprocAttr, hc, h0', h60', he] <;> rfl)); (with_reducible first | exact Check_ok _ hfit | exact asked_lit h rooms t hfit hrm); try first | rfl | (simp (disch := omega) only [push_cast, simprocAttr, hc, h0', h60', he] <;> rfl))
            | ((first | apply W.ret2 | apply W.end2); (iterate 2 (try (simp (disch := omega) only [push_cast, simprocAttr, hc, h0', h60', he] <;> rfl))))
          all_goals (show _ = _; rw [hE])
  · have hE : tourH h rooms t = (0, (Check h).1) := if_pos hc
    refine OKat.of_body (rs := [6, 7]) Tryd.func61 rfl (by decide +kernel) rfl (by simp [Tryd.ntmps61]) ?_
    simp only [Tryd.ntmps61]
    repeat' first
      | apply AW.seq | apply AW.region | apply AW.ret | apply AW.block | apply AW.skip | apply AW.exit | apply AW.scope | apply AW.label | apply AWL.nil | apply D.nil
      | refine W.draw cx_mixed (by decide +kernel) ?_
      | ((first | (apply W.step cx_ok; decide) | (apply D.step cx_ok; decide; decide) | (apply W.gS; rfl; decide) | (apply D.gS; rfl; decide; decide) | apply AW.cond); (simp (disch := omega) only [push_cast, simprocAttr, hc] <;> rfl); all_goals try ((with_reducible intro hI); try first | (cases hI; done) | (simp only [INTS] at hI; try first | (exfalso; omega) | (have hT : True := hI; clear hT hI))))
      | ((first | (apply W.callv cx_ok; decide) | (apply D.callv cx_ok; decide; decide)); (iterate 2 (simp (disch := omega) only [push_cast, simprocAttr, hc] <;> rfl)); (with_reducible first | exact Check_ok _ hfit); try first | rfl | (simp (disch := omega) only [push_cast, simprocAttr, hc] <;> rfl))
      | ((first | apply W.ret2 | apply W.end2); (iterate 2 (try (simp (disch := omega) only [push_cast, simprocAttr, hc] <;> rfl))))
    all_goals (show _ = _; rw [hE])
theorem TourR_ok (h : House) (rooms : List Int) (t : Int) (hfit : h.Fit) (hrm : rooms.length ≤ 1099511627776) : OKv cx 62 [.agg (eHouse h), lInt rooms, ai t] (.tup [ai (tourH h rooms t).1, ai (tourH h rooms t).2]) := by
  by_cases hc : (Check h).1 = 0
  · have hv := Check_V hc
    have hrl := hv.rooms
    by_cases h0 : rooms.length = 0
    · have h0' : (rooms.length : Int) = 0 := by omega
      have hE : tourH h rooms t = (0, 1) := by unfold tourH; rw [if_neg (by simp [hc]), if_pos h0]
      refine OKat.of_body (rs := [6, 7]) Tryd.func62 rfl (by decide +kernel) rfl (by simp [Tryd.ntmps62]) ?_
      simp only [Tryd.ntmps62]
      repeat' first
        | apply AW.seq | apply AW.region | apply AW.ret | apply AW.block | apply AW.skip | apply AW.exit | apply AW.scope | apply AW.label | apply AWL.nil | apply D.nil
        | refine W.draw cx_mixed (by decide +kernel) ?_
        | ((first | (apply W.step cx_ok; decide) | (apply D.step cx_ok; decide; decide) | (apply W.gS; rfl; decide) | (apply D.gS; rfl; decide; decide) | apply AW.cond); (simp (disch := omega) only [push_cast, simprocAttr, hc, h0'] <;> rfl); all_goals try ((with_reducible intro hI); try first | (cases hI; done) | (simp only [INTS] at hI; try first | (exfalso; omega) | (have hT : True := hI; clear hT hI))))
        | ((first | (apply W.callv cx_ok; decide) | (apply D.callv cx_ok; decide; decide)); (iterate 2 (simp (disch := omega) only [push_cast, simprocAttr, hc, h0'] <;> rfl)); (with_reducible first | exact Error_ok _ hfit); try first | rfl | (simp (disch := omega) only [push_cast, simprocAttr, hc, h0'] <;> rfl))
        | ((first | apply W.ret2 | apply W.end2); (iterate 2 (try (simp (disch := omega) only [push_cast, simprocAttr, hc, h0'] <;> rfl))))
      all_goals (show _ = _; rw [hE])
    · have h0' : ((rooms.length : Int) = 0) = False := eq_false (by omega)
      by_cases h60 : 60 < rooms.length
      · have h60' : 60 < (rooms.length : Int) := by omega
        have hE : tourH h rooms t = (0, 2) := by unfold tourH; rw [if_neg (by simp [hc]), if_neg h0, if_pos h60]
        refine OKat.of_body (rs := [6, 7]) Tryd.func62 rfl (by decide +kernel) rfl (by simp [Tryd.ntmps62]) ?_
        simp only [Tryd.ntmps62]
        repeat' first
          | apply AW.seq | apply AW.region | apply AW.ret | apply AW.block | apply AW.skip | apply AW.exit | apply AW.scope | apply AW.label | apply AWL.nil | apply D.nil
          | refine W.draw cx_mixed (by decide +kernel) ?_
          | ((first | (apply W.step cx_ok; decide) | (apply D.step cx_ok; decide; decide) | (apply W.gS; rfl; decide) | (apply D.gS; rfl; decide; decide) | apply AW.cond); (simp (disch := omega) only [push_cast, simprocAttr, hc, h0', h60'] <;> rfl); all_goals try ((with_reducible intro hI); try first | (cases hI; done) | (simp only [INTS] at hI; try first | (exfalso; omega) | (have hT : True := hI; clear hT hI))))
          | ((first | (apply W.callv cx_ok; decide) | (apply D.callv cx_ok; decide; decide)); (iterate 2 (simp (disch := omega) only [push_cast, simprocAttr, hc, h0', h60'] <;> rfl)); (with_reducible first | exact Error_ok _ hfit); try first | rfl | (simp (disch := omega) only [push_cast, simprocAttr, hc, h0', h60'] <;> rfl))
          | ((first | apply W.ret2 | apply W.end2); (iterate 2 (try (simp (disch := omega) only [push_cast, simprocAttr, hc, h0', h60'] <;> rfl))))
        all_goals (show _ = _; rw [hE])
      · have h60' : ¬ 60 < (rooms.length : Int) := by omega
        by_cases he : askedE h rooms [t] = 0
        · obtain ⟨_, hrr, htt⟩ := askedE_zero he
          have ht := htt t (by simp)
          have hE : tourH h rooms t = (tourL h (rooms.getD 0 0) rooms.tail t, 0) := by unfold tourH; rw [if_neg (by simp [hc]), if_neg h0, if_neg h60, if_neg (by simp [he])]
          have hr0 : isRoom h (rooms.getD 0 0) := hrr _ (List.mem_of_getElem? (getD_set' rooms 0 0 (by omega)))
          refine OKat.of_body (rs := [6, 7]) Tryd.func62 rfl (by decide +kernel) rfl (by simp [Tryd.ntmps62]) ?_
          simp only [Tryd.ntmps62]
          repeat' first
            | apply AW.seq | apply AW.region | apply AW.ret | apply AW.block | apply AW.skip | apply AW.exit | apply AW.scope | apply AW.label | apply AWL.nil | apply D.nil
            | refine W.draw cx_mixed (by decide +kernel) ?_
            | ((first | (apply W.step cx_ok; decide) | (apply D.step cx_ok; decide; decide) | (apply W.gS; rfl; decide) | (apply D.gS; rfl; decide; decide) | apply AW.cond); (simp (disch := omega) only [push_cast, simprocAttr, hc, h0', h60'] <;> rfl); all_goals try ((with_reducible intro hI); try first | (cases hI; done) | (simp only [INTS] at hI; try first | (exfalso; omega) | (have hT : True := hI; clear hT hI))))
            | ((first | (apply W.callv cx_ok; decide) | (apply D.callv cx_ok; decide; decide)); (iterate 2 (simp (disch := omega) only [push_cast, simprocAttr, hc, h0', h60'] <;> rfl)); (with_reducible first | exact Error_ok _ hfit); try first | rfl | (simp (disch := omega) only [push_cast, simprocAttr, hc, h0', h60'] <;> rfl))
            | ((first | apply W.ret2 | apply W.end2); (iterate 2 (try (simp (disch := omega) only [push_cast, simprocAttr, hc, h0', h60'] <;> rfl))))
          refine AW.loop (fun n s => ∃ (k : Nat) (rest : List Int), n = rest.length ∧ (rooms.drop k = rest) ∧ 1 ≤ s.nx ∧ s.tm 1 = lInt rooms ∧ s.tm 2 = ai t ∧ s.tm 3 = .ptr 0 0 0 1 ∧ s.tm 9 = ai k ∧ Pg.rowAt s.H (0) = some ({ k := 3, es := [eHouse h], ty := 26 })) (rooms.length) ⟨0, rooms, rfl, rfl, ?_, ?_, ?_, ?_, ?_, ?_⟩ ?_
          iterate 6 (first | (simp (disch := omega) only [push_cast, simprocAttr, hc, h0', h60'] <;> first | rfl | omega) | omega)
          rintro n s ⟨k, rest, hn, hp0, hnl, hS⟩
          have hZ : (0 : Nat) ≠ s.nx ∧ s.nx ≠ (0 : Nat) := by omega
          rcases rest with _ | ⟨x, rest⟩
          · have hk := drop_nil hp0
            repeat' first
              | apply AW.seq | apply AW.region | apply AW.ret | apply AW.block | apply AW.skip | apply AW.exit | apply AW.scope | apply AW.label | apply AWL.nil | apply D.nil
              | refine W.draw cx_mixed (by decide +kernel) ?_
              | ((first | (apply W.step cx_ok; decide) | (apply D.step cx_ok; decide; decide) | (apply W.gS; rfl; decide) | (apply D.gS; rfl; decide; decide) | apply AW.cond); (simp (disch := omega) only [push_cast, simprocAttr, hS, hZ, hk] <;> rfl); all_goals try ((with_reducible intro hI); try first | (cases hI; done) | (simp only [INTS] at hI; try first | (exfalso; omega) | (have hT : True := hI; clear hT hI))))
              | ((first | apply W.ret2 | apply W.end2); (iterate 2 (try (simp (disch := omega) only [push_cast, simprocAttr, hS, hZ, hk] <;> rfl))))
            refine AW.loop (fun n s => ∃ (k : Nat) (p tt : Int) (rest : List Int), n = rest.length ∧ (1 ≤ k ∧ rooms.drop k = rest) ∧ (rooms.getD (k - 1) 0 = p) ∧ (isRoom h p) ∧ (0 ≤ tt ∧ tt ≤ 1073741824) ∧ (tourL h p rest tt = tourL h (rooms.getD 0 0) rooms.tail t) ∧ 1 ≤ s.nx ∧ s.tm 1 = lInt rooms ∧ s.tm 2 = ai tt ∧ s.tm 3 = .ptr 0 0 0 1 ∧ s.tm 10 = ai k ∧ Pg.rowAt s.H (0) = some ({ k := 3, es := [eHouse h], ty := 26 })) (rooms.tail.length) ⟨1, rooms.getD 0 0, t, rooms.tail, rfl, ⟨Nat.le_refl _, List.drop_one⟩, rfl, hr0, (by omega), rfl, ?_, ?_, ?_, ?_, ?_, ?_⟩ ?_
            iterate 6 (first | (simp (disch := omega) only [push_cast, simprocAttr, hS, hZ, hc, h0', h60', hk] <;> first | rfl | omega) | omega)
            rintro n2 s2 ⟨k2, p2, tt2, rest2, hn2, hp02, hp12, hp22, hp32, hp42, hnl2, hS2⟩
            have hZ2 : (0 : Nat) ≠ s2.nx ∧ s2.nx ≠ (0 : Nat) := by omega
            rcases rest2 with _ | ⟨x2, rest2⟩
            · have hk2 := drop_nil hp02.2
              repeat' first
                | apply AW.seq | apply AW.region | apply AW.ret | apply AW.block | apply AW.skip | apply AW.exit | apply AW.scope | apply AW.label | apply AWL.nil | apply D.nil
                | refine W.draw cx_mixed (by decide +kernel) ?_
                | ((first | (apply W.step cx_ok; decide) | (apply D.step cx_ok; decide; decide) | (apply W.gS; rfl; decide) | (apply D.gS; rfl; decide; decide) | apply AW.cond); (simp (disch := omega) only [push_cast, simprocAttr, hS2, hZ2, hk2] <;> rfl); all_goals try ((with_reducible intro hI); try first | (cases hI; done) | (simp only [INTS] at hI; try first | (exfalso; omega) | (have hT : True := hI; clear hT hI))))
                | ((first | apply W.ret2 | apply W.end2); (iterate 2 (try (simp (disch := omega) only [push_cast, simprocAttr, hS2, hZ2, hk2] <;> rfl))))
              all_goals (show _ = _; rw [hE, ← hp42]; rfl)
            · obtain ⟨hk2, hg2, hd'2, hl'2, hm2, hx2⟩ := drop_cons hp02.2 eInt []
              have hxr := hrr x2 hm2
              by_cases htn : tt2 = 1073741824
              · have htn' : (tt2 = 1073741824) = True := eq_true htn
                repeat' first
                  | apply AW.seq | apply AW.region | apply AW.ret | apply AW.block | apply AW.skip | apply AW.exit | apply AW.scope | apply AW.label | apply AWL.nil | apply D.nil
                  | refine W.draw cx_mixed (by decide +kernel) ?_
                  | ((first | (apply W.step cx_ok; decide) | (apply D.step cx_ok; decide; decide) | (apply W.gS; rfl; decide) | (apply D.gS; rfl; decide; decide) | apply AW.cond); (simp (disch := omega) only [push_cast, simprocAttr, hS2, hZ2, hk2, htn'] <;> rfl); all_goals try ((with_reducible intro hI); try first | (cases hI; done) | (simp only [INTS] at hI; try first | (exfalso; omega) | (have hT : True := hI; clear hT hI))))
                  | ((first | apply W.ret2 | apply W.end2); (iterate 2 (try (simp (disch := omega) only [push_cast, simprocAttr, hS2, hZ2, hk2, htn'] <;> rfl))))
                all_goals (show _ = _; rw [hE, ← hp42, tourL, if_pos htn])
              · have htn' : (tt2 = 1073741824) = False := eq_false htn
                have htb : 0 ≤ tt2 ∧ tt2 ≤ 1073741823 := by have := hp32; omega
                have hk1 := hp02.1
                have hkm0 : (0 : Int) ≤ (k2 : Int) - 1 := by omega
                have hkm1 : (k2 : Int) - 1 < (rooms.length : Int) := by omega
                have hkm2 : ((k2 : Int) - 1).toNat < rooms.length := by omega
                have hgp : rooms.getD ((k2 : Int) - 1).toNat 0 = p2 := by rw [← hp12]; congr 1; omega
                have hpr := hp22
                unfold isRoom at hpr hxr
                obtain ⟨X, hX⟩ : ∃ y, arrR h p2.toNat tt2 = y := ⟨_, rfl⟩
                have hXl : X.length = h.rooms.length := by rw [← hX]; exact (arrR_is hv (a := p2.toNat) (by omega) (t := tt2) (by omega)).1
                have hXb := arr_at hv (p := p2) (b := x2) hpr hxr (t := tt2) (by omega)
                rw [hX] at hXb
                have hao := Arrivals_ok h p2 tt2 hfit hv hpr htb
                rw [hX] at hao
                have c1 := hxr.1
                have c2 : x2 < (X.length : Int) := by omega
                have c3 : x2.toNat < X.length := by omega
                have c4 : k2 < rooms.length := by omega
                repeat' first
                  | apply AW.seq | apply AW.region | apply AW.ret | apply AW.block | apply AW.skip | apply AW.exit | apply AW.scope | apply AW.label | apply AWL.nil | apply D.nil
                  | refine W.draw cx_mixed (by decide +kernel) ?_
                  | ((first | (apply W.step cx_ok; decide) | (apply D.step cx_ok; decide; decide) | (apply W.gS; rfl; decide) | (apply D.gS; rfl; decide; decide) | apply AW.cond); (simp (disch := omega) only [push_cast, simprocAttr, hS2, hZ2, hk2, hg2, htn', hkm0, hkm1, hkm2, hgp, c1, c2, c3] <;> rfl); all_goals try ((with_reducible intro hI); try first | (cases hI; done) | (simp only [INTS] at hI; try first | (exfalso; omega) | (have hT : True := hI; clear hT hI))))
                  | ((first | (apply W.callv cx_ok; decide) | (apply D.callv cx_ok; decide; decide)); (iterate 2 (simp (disch := omega) only [push_cast, simprocAttr, hS2, hZ2, hk2, hg2, htn', hkm0, hkm1, hkm2, hgp, c1, c2, c3] <;> rfl)); (with_reducible first | exact hao); try first | rfl | (simp (disch := omega) only [push_cast, simprocAttr, hS2, hZ2, hk2, hg2, htn', hkm0, hkm1, hkm2, hgp, c1, c2, c3] <;> rfl))
                  | ((first | apply W.ret2 | apply W.end2); (iterate 2 (try (simp (disch := omega) only [push_cast, simprocAttr, hS2, hZ2, hk2, hg2, htn', hkm0, hkm1, hkm2, hgp, c1, c2, c3] <;> rfl))))
                all_goals
                  (rw [tourL, if_neg htn, hX] at hp42
                   (refine ⟨rest2.length, ?_, k2 + 1, x2, X.getD x2.toNat 0, rest2, rfl, ⟨(by omega), hd'2⟩, (by rw [Nat.add_sub_cancel]; rw [List.getD_eq_getElem?_getD, List.getElem?_eq_getElem c4]; have hq := hx2; rw [List.getElem?_map, List.getElem?_eq_getElem c4] at hq; simpa using hq), (by unfold isRoom; omega), (by omega), hp42, ?_, ?_, ?_, ?_, ?_, ?_⟩; ((simp only [List.length_cons] at *; omega)); all_goals first | (simp (disch := omega) only [push_cast, simprocAttr, hS2, hZ2, hg2, hk2, hkm0, hkm1, hkm2, hgp, c1, c2, c3] <;> first | rfl | omega) | omega))
          · obtain ⟨hk, hg, hd', hl', hm, hx⟩ := drop_cons hp0 eInt []
            have hxr := hrr x hm
            unfold isRoom at hxr
            have hro : roomE h x t = 0 := by unfold roomE; rw [if_neg (by simp [hc]), if_neg (by omega)]
            repeat' first
              | apply AW.seq | apply AW.region | apply AW.ret | apply AW.block | apply AW.skip | apply AW.exit | apply AW.scope | apply AW.label | apply AWL.nil | apply D.nil
              | refine W.draw cx_mixed (by decide +kernel) ?_
              | ((first | (apply W.step cx_ok; decide) | (apply D.step cx_ok; decide; decide) | (apply W.gS; rfl; decide) | (apply D.gS; rfl; decide; decide) | apply AW.cond); (simp (disch := omega) only [push_cast, simprocAttr, hS, hZ, hk, hg, hro] <;> rfl); all_goals try ((with_reducible intro hI); try first | (cases hI; done) | (simp only [INTS] at hI; try first | (exfalso; omega) | (have hT : True := hI; clear hT hI))))
              | ((first | (apply W.callv cx_ok; decide) | (apply D.callv cx_ok; decide; decide)); (iterate 2 (simp (disch := omega) only [push_cast, simprocAttr, hS, hZ, hk, hg, hro] <;> rfl)); (with_reducible first | exact room_ok _ _ _ hfit); try first | rfl | (simp (disch := omega) only [push_cast, simprocAttr, hS, hZ, hk, hg, hro] <;> rfl))
              | ((first | apply W.ret2 | apply W.end2); (iterate 2 (try (simp (disch := omega) only [push_cast, simprocAttr, hS, hZ, hk, hg, hro] <;> rfl))))
            all_goals (refine ⟨rest.length, ?_, k + 1, rest, rfl, hd', ?_, ?_, ?_, ?_, ?_, ?_⟩; ((simp only [List.length_cons] at *; omega)); all_goals first | (simp (disch := omega) only [push_cast, simprocAttr, hS, hZ, hg, hk, hro] <;> first | rfl | omega) | omega)
        · have he1 : askedE h rooms [t] = 1 := asked_one hc he
          have hE : tourH h rooms t = (0, 1) := by unfold tourH; rw [if_neg (by simp [hc]), if_neg h0, if_neg h60, if_pos he, he1]
          refine OKat.of_body (rs := [6, 7]) Tryd.func62 rfl (by decide +kernel) rfl (by simp [Tryd.ntmps62]) ?_
          simp only [Tryd.ntmps62]
          repeat' first
            | apply AW.seq | apply AW.region | apply AW.ret | apply AW.block | apply AW.skip | apply AW.exit | apply AW.scope | apply AW.label | apply AWL.nil | apply D.nil
            | refine W.draw cx_mixed (by decide +kernel) ?_
            | ((first | (apply W.step cx_ok; decide) | (apply D.step cx_ok; decide; decide) | (apply W.gS; rfl; decide) | (apply D.gS; rfl; decide; decide) | apply AW.cond); (simp (disch := omega) only [push_cast, simprocAttr, hc, h0', h60'] <;> rfl); all_goals try ((with_reducible intro hI); try first | (cases hI; done) | (simp only [INTS] at hI; try first | (exfalso; omega) | (have hT : True := hI; clear hT hI))))
            | ((first | (apply W.callv cx_ok; decide) | (apply D.callv cx_ok; decide; decide)); (iterate 2 (simp (disch := omega) only [push_cast, simprocAttr, hc, h0', h60'] <;> rfl)); (with_reducible first | exact Error_ok _ hfit); try first | rfl | (simp (disch := omega) only [push_cast, simprocAttr, hc, h0', h60'] <;> rfl))
            | ((first | apply W.ret2 | apply W.end2); (iterate 2 (try (simp (disch := omega) only [push_cast, simprocAttr, hc, h0', h60'] <;> rfl))))
          refine AW.loop (fun n s => ∃ (k : Nat) (rest : List Int), n = rest.length ∧ (rooms.drop k = rest) ∧ (∃ r ∈ rest, roomE h r t ≠ 0) ∧ 1 ≤ s.nx ∧ s.tm 1 = lInt rooms ∧ s.tm 2 = ai t ∧ s.tm 3 = .ptr 0 0 0 1 ∧ s.tm 9 = ai k ∧ Pg.rowAt s.H (0) = some ({ k := 3, es := [eHouse h], ty := 26 })) (rooms.length) ⟨0, rooms, rfl, rfl, (asked_bad hc (by omega) he), ?_, ?_, ?_, ?_, ?_, ?_⟩ ?_
          iterate 6 (first | (simp (disch := omega) only [push_cast, simprocAttr, hc, h0', h60'] <;> first | rfl | omega) | omega)
          rintro n s ⟨k, rest, hn, hp0, hp1, hnl, hS⟩
          have hZ : (0 : Nat) ≠ s.nx ∧ s.nx ≠ (0 : Nat) := by omega
          rcases rest with _ | ⟨x, rest⟩
          · obtain ⟨r, hr, _⟩ := hp1
            cases hr
          · obtain ⟨hk, hg, hd', hl', hm, hx⟩ := drop_cons hp0 eInt []
            by_cases hro : roomE h x t = 0
            · have hrest : ∃ r ∈ rest, roomE h r t ≠ 0 := by
                obtain ⟨r, hr, hq⟩ := hp1
                rcases List.mem_cons.1 hr with rfl | hr
                · exact absurd hro hq
                · exact ⟨r, hr, hq⟩
              repeat' first
                | apply AW.seq | apply AW.region | apply AW.ret | apply AW.block | apply AW.skip | apply AW.exit | apply AW.scope | apply AW.label | apply AWL.nil | apply D.nil
                | refine W.draw cx_mixed (by decide +kernel) ?_
                | ((first | (apply W.step cx_ok; decide) | (apply D.step cx_ok; decide; decide) | (apply W.gS; rfl; decide) | (apply D.gS; rfl; decide; decide) | apply AW.cond); (simp (disch := omega) only [push_cast, simprocAttr, hS, hZ, hk, hg, hro] <;> rfl); all_goals try ((with_reducible intro hI); try first | (cases hI; done) | (simp only [INTS] at hI; try first | (exfalso; omega) | (have hT : True := hI; clear hT hI))))
                | ((first | (apply W.callv cx_ok; decide) | (apply D.callv cx_ok; decide; decide)); (iterate 2 (simp (disch := omega) only [push_cast, simprocAttr, hS, hZ, hk, hg, hro] <;> rfl)); (with_reducible first | exact room_ok _ _ _ hfit); try first | rfl | (simp (disch := omega) only [push_cast, simprocAttr, hS, hZ, hk, hg, hro] <;> rfl))
                | ((first | apply W.ret2 | apply W.end2); (iterate 2 (try (simp (disch := omega) only [push_cast, simprocAttr, hS, hZ, hk, hg, hro] <;> rfl))))
              all_goals (refine ⟨rest.length, ?_, k + 1, rest, rfl, hd', hrest, ?_, ?_, ?_, ?_, ?_, ?_⟩; ((simp only [List.length_cons] at *; omega)); all_goals first | (simp (disch := omega) only [push_cast, simprocAttr, hS, hZ, hg, hk, hro] <;> first | rfl | omega) | omega)
            · have hro1 : roomE h x t = 1 := room_one hc hro
              repeat' first
                | apply AW.seq | apply AW.region | apply AW.ret | apply AW.block | apply AW.skip | apply AW.exit | apply AW.scope | apply AW.label | apply AWL.nil | apply D.nil
                | refine W.draw cx_mixed (by decide +kernel) ?_
                | ((first | (apply W.step cx_ok; decide) | (apply D.step cx_ok; decide; decide) | (apply W.gS; rfl; decide) | (apply D.gS; rfl; decide; decide) | apply AW.cond); (simp (disch := omega) only [push_cast, simprocAttr, hS, hZ, hk, hg, hro1] <;> rfl); all_goals try ((with_reducible intro hI); try first | (cases hI; done) | (simp only [INTS] at hI; try first | (exfalso; omega) | (have hT : True := hI; clear hT hI))))
                | ((first | (apply W.callv cx_ok; decide) | (apply D.callv cx_ok; decide; decide)); (iterate 2 (simp (disch := omega) only [push_cast, simprocAttr, hS, hZ, hk, hg, hro1] <;> rfl)); (with_reducible first | exact room_ok _ _ _ hfit); try first | rfl | (simp (disch := omega) only [push_cast, simprocAttr, hS, hZ, hk, hg, hro1] <;> rfl))
                | ((first | apply W.ret2 | apply W.end2); (iterate 2 (try (simp (disch := omega) only [push_cast, simprocAttr, hS, hZ, hk, hg, hro1] <;> rfl))))
              all_goals (show _ = _; rw [hE])
  · have hE : tourH h rooms t = (0, (Check h).1) := if_pos hc
    refine OKat.of_body (rs := [6, 7]) Tryd.func62 rfl (by decide +kernel) rfl (by simp [Tryd.ntmps62]) ?_
    simp only [Tryd.ntmps62]
    repeat' first
      | apply AW.seq | apply AW.region | apply AW.ret | apply AW.block | apply AW.skip | apply AW.exit | apply AW.scope | apply AW.label | apply AWL.nil | apply D.nil
      | refine W.draw cx_mixed (by decide +kernel) ?_
      | ((first | (apply W.step cx_ok; decide) | (apply D.step cx_ok; decide; decide) | (apply W.gS; rfl; decide) | (apply D.gS; rfl; decide; decide) | apply AW.cond); (simp (disch := omega) only [push_cast, simprocAttr, hc] <;> rfl); all_goals try ((with_reducible intro hI); try first | (cases hI; done) | (simp only [INTS] at hI; try first | (exfalso; omega) | (have hT : True := hI; clear hT hI))))
      | ((first | (apply W.callv cx_ok; decide) | (apply D.callv cx_ok; decide; decide)); (iterate 2 (simp (disch := omega) only [push_cast, simprocAttr, hc] <;> rfl)); (with_reducible first | exact Error_ok _ hfit); try first | rfl | (simp (disch := omega) only [push_cast, simprocAttr, hc] <;> rfl))
      | ((first | apply W.ret2 | apply W.end2); (iterate 2 (try (simp (disch := omega) only [push_cast, simprocAttr, hc] <;> rfl))))
    all_goals (show _ = _; rw [hE])

end Go.Proofs.Hs
