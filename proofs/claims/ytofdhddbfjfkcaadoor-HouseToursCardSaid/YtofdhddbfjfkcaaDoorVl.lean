/-
  Tours and the nearest room: plain. No conditions.
-/
import Derived.Test.YtofdhddbfjfkcaaDoorHe
import Derived.Test.YtofdhddbfjfkcaaDoorVd
set_option linter.unusedSimpArgs false
set_option linter.unusedVariables false
namespace Go.Proofs.Hs
open Go Go.Pg Go.Proofs Go.Proofs.Lab

/-- When one has been in some rooms, in their order. -/
def tourL (h : House) : Int → List Int → Int → Int
  | _, [], t => t
  | p, b :: rest, t => if t = 1073741824 then t else tourL h b rest ((arrR h p.toNat t).getD b.toNat 0)
def isRoom (h : House) (n : Int) : Prop := 0 ≤ n ∧ n < (h.rooms.length : Int)
theorem arr_at {h : House} (hv : h.V) {p b : Int} (hp : isRoom h p) (hb : isRoom h b) {t : Int} (ht : 0 ≤ t ∧ t ≤ 1073741824) : t ≤ (arrR h p.toNat t).getD b.toNat 0 ∧ (arrR h p.toNat t).getD b.toNat 0 ≤ 1073741824 := by
  unfold isRoom at hp hb
  obtain ⟨hl, hi⟩ := arrR_is hv (a := p.toNat) (by omega) ht
  obtain ⟨s1, s2⟩ := arr_self hv (a := p.toNat) (by omega) ht
  rw [← getD_lab (N := arrN h) (by omega)]
  exact ⟨s2 _, (hi.closed.In _).2⟩
theorem tour_in {h : House} (hv : h.V) : ∀ (l : List Int) (p t : Int), isRoom h p → (∀ x ∈ l, isRoom h x) → (0 ≤ t ∧ t ≤ 1073741824) → t ≤ tourL h p l t ∧ tourL h p l t ≤ 1073741824
  | [], _, t, _, _, ht => ⟨Int.le_refl _, ht.2⟩
  | b :: l, p, t, hp, hl, ht => by
    unfold tourL
    split
    · exact ⟨Int.le_refl _, ht.2⟩
    · have h1 := arr_at hv hp (hl b (by simp)) ht
      have := tour_in hv l b _ (hl b (by simp)) (fun x hx => hl x (by simp [hx])) ⟨by omega, h1.2⟩
      omega
theorem arr_monoD {h : House} (hv : h.V) {p b : Int} (hp : isRoom h p) (hb : isRoom h b) {t u : Int} (h0 : 0 ≤ t) (htu : t ≤ u) (hu : u ≤ 1073741824) : (arrR h p.toNat t).getD b.toNat 0 ≤ (arrR h p.toNat u).getD b.toNat 0 := by
  unfold isRoom at hp hb
  obtain ⟨l1, _⟩ := arrR_is hv (a := p.toNat) (by omega) (t := t) (by omega)
  obtain ⟨l2, _⟩ := arrR_is hv (a := p.toNat) (by omega) (t := u) (by omega)
  have := arr_mono hv (a := p.toNat) (by omega) h0 htu hu b.toNat
  rwa [getD_lab (by omega), getD_lab (by omega)] at this
theorem tour_mono {h : House} (hv : h.V) : ∀ (l : List Int) (p t u : Int), isRoom h p → (∀ x ∈ l, isRoom h x) → 0 ≤ t → t ≤ u → u ≤ 1073741824 → tourL h p l t ≤ tourL h p l u
  | [], _, _, _, _, _, _, htu, _ => htu
  | b :: l, p, t, u, hp, hl, h0, htu, hu => by
    have hlb := hl b (by simp)
    have hl' : ∀ x ∈ l, isRoom h x := fun x hx => hl x (by simp [hx])
    by_cases hun : u = 1073741824
    · have h1 := (tour_in hv (b :: l) p t hp hl ⟨h0, by omega⟩).2
      have h2 : tourL h p (b :: l) u = u := by unfold tourL; rw [if_pos hun]
      omega
    · unfold tourL
      rw [if_neg (by omega), if_neg hun]
      have h1 := arr_at hv hp hlb (t := t) ⟨h0, by omega⟩
      have h2 := arr_at hv hp hlb (t := u) ⟨by omega, hu⟩
      exact tour_mono hv l b _ _ hlb hl' (by omega) (arr_monoD hv hp hlb h0 htu hu) h2.2
/-- .. with the errors. -/
def tourH (h : House) (rooms : List Int) (t : Int) : Int × Int :=
  if (Check h).1 ≠ 0 then (0, (Check h).1) else if rooms.length = 0 then (0, 1) else if 60 < rooms.length then (0, 2) else
  if askedE h rooms [t] ≠ 0 then (0, askedE h rooms [t]) else (tourL h (rooms.getD 0 0) rooms.tail t, 0)
theorem askedE_zero {h : House} {rs ts : List Int} (he : askedE h rs ts = 0) : (Check h).1 = 0 ∧ (∀ r ∈ rs, isRoom h r) ∧ ∀ t ∈ ts, 0 ≤ t ∧ t ≤ 1073741823 := by
  unfold askedE at he
  split at he
  · rename_i hc; exact absurd he hc
  · rename_i hc
    split at he
    · rename_i hr
      split at he
      · rename_i ht
        refine ⟨by simpa using hc, fun r hr' => ?_, fun t ht' => ?_⟩
        · have := List.all_eq_true.1 hr r hr'
          simp only [roomB, Bool.and_eq_true, decide_eq_true_eq] at this
          exact this
        · have := List.all_eq_true.1 ht t ht'
          simp only [timeB, Bool.and_eq_true, decide_eq_true_eq] at this
          exact this
      · cases he
    · cases he
theorem askedE_timeEq {h : House} {rs : List Int} {t u : Int} (ht : 0 ≤ t ∧ t ≤ 1073741823) (hu : 0 ≤ u ∧ u ≤ 1073741823) : askedE h rs [t] = askedE h rs [u] := by
  have h1 : timeB t = true := by simp only [timeB, Bool.and_eq_true, decide_eq_true_eq]; exact ht
  have h2 : timeB u = true := by simp only [timeB, Bool.and_eq_true, decide_eq_true_eq]; exact hu
  unfold askedE
  simp only [List.all_cons, List.all_nil, h1, h2]
theorem tourH_mono {h : House} {rooms : List Int} {t u : Int} (ht : 0 ≤ t ∧ t ≤ 1073741823) (hu : 0 ≤ u ∧ u ≤ 1073741823) (htu : t ≤ u) : (tourH h rooms t).2 = (tourH h rooms u).2 ∧ (tourH h rooms t).1 ≤ (tourH h rooms u).1 := by
  unfold tourH
  rw [askedE_timeEq (h := h) (rs := rooms) ht hu]
  split
  · exact ⟨rfl, Int.le_refl _⟩
  · split
    · exact ⟨rfl, Int.le_refl _⟩
    · rename_i hc hl
      split
      · exact ⟨rfl, Int.le_refl _⟩
      · split
        · exact ⟨rfl, Int.le_refl _⟩
        · rename_i he
          obtain ⟨h1, h2, _⟩ := askedE_zero (h := h) (rs := rooms) (ts := [u]) (by simpa using he)
          refine ⟨rfl, ?_⟩
          cases rooms with
          | nil => simp at hl
          | cons p l => exact tour_mono (Check_V h1) l p t u (h2 p (by simp)) (fun x hx => h2 x (by simp [hx])) ht.1 htu (by omega)

/-! ## The nearest -/
def nearC (n r : Int) (p : Int × Int) : Bool := decide (n < p.2) || (decide (n = p.2) && (decide (p.2 ≠ 1073741824) && decide (r < p.1)))
def nearL (X : List Int) : List Int → Int × Int → Int × Int
  | [], p => p
  | r :: rest, p => nearL X rest (if nearC (X.getD r.toNat 0) r p = true then (r, X.getD r.toNat 0) else p)
def nearH (h : House) (n t : Int) (rooms : List Int) : Int × Int × Int :=
  if askedE h (n :: rooms) [t] ≠ 0 then (0, 0, askedE h (n :: rooms) [t]) else
  if (nearL (arrR h n.toNat t) rooms (-1, 1073741824)).1 < 0 then (0, 0, 5) else
  ((nearL (arrR h n.toNat t) rooms (-1, 1073741824)).1, (nearL (arrR h n.toNat t) rooms (-1, 1073741824)).2, 0)
end Go.Proofs.Hs
