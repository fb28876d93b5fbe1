/-
  Contracts of functions, proved by going through their code. No conditions.
-/
import Derived.Test.YtdlflcambboojaaVaa
import Derived.Test.YtdlflcambboojaaN8KlR
set_option linter.unusedVariables false
set_option linter.unusedSimpArgs false
namespace Go.Proofs.Ks
open Go Go.Proofs
theorem fl_iff {a d q : Int} (hd : 0 < d) : q ≤ a / d ↔ q * d ≤ a := Int.le_ediv_iff_mul_le hd
theorem ce_iff {a d q : Int} (hd : 0 < d) : (a + d - 1) / d ≤ q ↔ a ≤ q * d := by
  have h := Int.ediv_lt_iff_lt_mul (a := a + d - 1) (b := q + 1) (c := d) hd
  rw [Int.add_mul, Int.one_mul] at h
  constructor
  · intro h1; have := h.1 (by omega); omega
  · intro h1; have := h.2 (by omega); omega
theorem fl_mul {a d : Int} (hd : 0 < d) : a / d * d ≤ a := (fl_iff hd).1 (Int.le_refl _)
theorem ce_mul {a d : Int} (hd : 0 < d) : a ≤ (a + d - 1) / d * d := (ce_iff hd).1 (Int.le_refl _)
theorem fl_nn {a d : Int} (ha : 0 ≤ a) (hd : 0 < d) : 0 ≤ a / d := (fl_iff hd).2 (by simpa using ha)
theorem ce_nn {a d : Int} (ha : 0 ≤ a) (hd : 0 < d) : 0 ≤ (a + d - 1) / d := Int.ediv_nonneg (by omega) (by omega)
theorem fl_add {a b d : Int} (hd : 0 < d) : a / d + b / d ≤ (a + b) / d := by
  rw [fl_iff hd, Int.add_mul]
  have := fl_mul (a := a) hd
  have := fl_mul (a := b) hd
  omega
theorem ce_add {a b d : Int} (hd : 0 < d) : (a + b + d - 1) / d ≤ (a + d - 1) / d + (b + d - 1) / d := by
  rw [show a + b + d - 1 = (a + b) + d - 1 by omega, ce_iff hd, Int.add_mul]
  have := ce_mul (a := a) hd
  have := ce_mul (a := b) hd
  omega
theorem fl_ce {a b d e : Int} (hb : 0 ≤ b) (he : 0 < e) (hd : e ≤ d) : (a + b) / d ≤ a / d + (b + e - 1) / e := by
  have hd0 : 0 < d := by omega
  have h1 : (a + b) / d - (b + e - 1) / e ≤ a / d := by
    rw [fl_iff hd0, Int.sub_mul]
    have h2 := fl_mul (a := a + b) hd0
    have h3 := ce_mul (a := b) he
    have h4 := Int.mul_le_mul_of_nonneg_left hd (ce_nn (a := b) hb he)
    omega
  omega
theorem ce_fl {a b d e : Int} (hb : 0 ≤ b) (he : 0 < e) (hd : e ≤ d) : (a + e - 1) / e + b / d ≤ (a + b + e - 1) / e := by
  have hd0 : 0 < d := by omega
  have h1 : (a + e - 1) / e ≤ (a + b + e - 1) / e - b / d := by
    rw [ce_iff he, Int.sub_mul]
    have h2 := ce_mul (a := a + b) he
    have h3 := fl_mul (a := b) hd0
    have h4 := Int.mul_le_mul_of_nonneg_left hd (fl_nn (a := b) hb hd0)
    omega
  omega
theorem sumS_go (f : Stop → Int) (x y : Int) : ∀ (l : List Stop) (n : Int), sumS f x y l n = n + sumS f x y l 0
  | [], n => by simp [sumS]
  | t :: l, n => by
    unfold sumS
    by_cases hc : x ≤ t.pos ∧ t.pos < y
    · simp only [if_pos hc]; rw [sumS_go f x y l (n + f t), sumS_go f x y l (0 + f t)]; omega
    · simp only [if_neg hc]; exact sumS_go f x y l n
theorem sumS_add (f : Stop → Int) {x p y : Int} (h1 : x ≤ p) (h2 : p ≤ y) : ∀ l : List Stop, sumS f x y l 0 = sumS f x p l 0 + sumS f p y l 0
  | [] => by simp [sumS]
  | t :: l => by
    have ih := sumS_add f h1 h2 l
    unfold sumS
    by_cases a : x ≤ t.pos
    · by_cases b : t.pos < p
      · rw [if_pos ⟨a, by omega⟩, if_pos ⟨a, b⟩, if_neg (by omega), sumS_go f x y l, sumS_go f x p l]; omega
      · by_cases c : t.pos < y
        · rw [if_pos ⟨a, c⟩, if_neg (by omega), if_pos ⟨by omega, c⟩, sumS_go f x y l, sumS_go f p y l]; omega
        · rw [if_neg (by omega), if_neg (by omega), if_neg (by omega)]; exact ih
    · rw [if_neg (by omega), if_neg (by omega), if_neg (by omega)]; exact ih
theorem sumS_le {f g : Stop → Int} {x y : Int} : ∀ {l : List Stop}, (∀ t ∈ l, f t ≤ g t) → sumS f x y l 0 ≤ sumS g x y l 0
  | [], _ => Int.le_refl _
  | t :: l, h => by
    have ih := sumS_le (x := x) (y := y) (fun t ht => h t (List.mem_cons_of_mem _ ht))
    have h0 := h t (by simp)
    unfold sumS
    split
    · rw [sumS_go f x y l, sumS_go g x y l]; omega
    · exact ih
theorem leastR_eq (s : Session) (x y : Int) : (leastR s x y).1 = (y - x) * 1000000 / s.rate.hi + sumS (·.secs.lo) x y s.stops 0 ∧ (leastR s x y).2 = ((y - x) * 1000000 + s.rate.lo - 1) / s.rate.lo + sumS (·.secs.hi) x y s.stops 0 := by
  unfold leastR
  rw [addS_sum]
  exact ⟨rfl, rfl⟩
section
variable {s : Session} (hs : s.R) {x p y : Int} (h1 : x ≤ p) (h2 : p ≤ y)
include hs h1 h2
theorem low_add : (leastR s x p).1 + (leastR s p y).1 ≤ (leastR s x y).1 := by
  obtain ⟨r1, r2, r3⟩ := hs.rate
  rw [(leastR_eq s x p).1, (leastR_eq s p y).1, (leastR_eq s x y).1, sumS_add _ h1 h2]
  have := fl_add (a := (p - x) * 1000000) (b := (y - p) * 1000000) (d := s.rate.hi) (by omega)
  rw [← Int.add_mul, show p - x + (y - p) = y - x by omega] at this
  omega
theorem high_add : (leastR s x y).2 ≤ (leastR s x p).2 + (leastR s p y).2 := by
  obtain ⟨r1, r2, r3⟩ := hs.rate
  rw [(leastR_eq s x p).2, (leastR_eq s p y).2, (leastR_eq s x y).2, sumS_add _ h1 h2]
  have := ce_add (a := (p - x) * 1000000) (b := (y - p) * 1000000) (d := s.rate.lo) (by omega)
  rw [← Int.add_mul, show p - x + (y - p) = y - x by omega] at this
  omega
theorem low_high : (leastR s x y).1 ≤ (leastR s x p).1 + (leastR s p y).2 := by
  obtain ⟨r1, r2, r3⟩ := hs.rate
  rw [(leastR_eq s x p).1, (leastR_eq s p y).2, (leastR_eq s x y).1, sumS_add _ h1 h2]
  have := fl_ce (a := (p - x) * 1000000) (b := (y - p) * 1000000) (d := s.rate.hi) (e := s.rate.lo) (by omega) (by omega) r2
  rw [← Int.add_mul, show p - x + (y - p) = y - x by omega] at this
  have := sumS_le (f := (·.secs.lo)) (g := (·.secs.hi)) (x := p) (y := y) (l := s.stops) (fun t ht => (hs.stops t ht).2.1)
  omega
theorem high_low : (leastR s x y).1 ≤ (leastR s x p).2 + (leastR s p y).1 := by
  obtain ⟨r1, r2, r3⟩ := hs.rate
  rw [(leastR_eq s x p).2, (leastR_eq s p y).1, (leastR_eq s x y).1, sumS_add _ h1 h2]
  have := fl_ce (a := (y - p) * 1000000) (b := (p - x) * 1000000) (d := s.rate.hi) (e := s.rate.lo) (by omega) (by omega) r2
  rw [← Int.add_mul, show y - p + (p - x) = y - x by omega] at this
  have := sumS_le (f := (·.secs.lo)) (g := (·.secs.hi)) (x := x) (y := p) (l := s.stops) (fun t ht => (hs.stops t ht).2.1)
  omega
theorem high_ge1 : (leastR s x p).2 + (leastR s p y).1 ≤ (leastR s x y).2 := by
  obtain ⟨r1, r2, r3⟩ := hs.rate
  rw [(leastR_eq s x p).2, (leastR_eq s p y).1, (leastR_eq s x y).2, sumS_add _ h1 h2]
  have := ce_fl (a := (p - x) * 1000000) (b := (y - p) * 1000000) (d := s.rate.hi) (e := s.rate.lo) (by omega) (by omega) r2
  rw [← Int.add_mul, show p - x + (y - p) = y - x by omega] at this
  have := sumS_le (f := (·.secs.lo)) (g := (·.secs.hi)) (x := p) (y := y) (l := s.stops) (fun t ht => (hs.stops t ht).2.1)
  omega
theorem high_ge2 : (leastR s x p).1 + (leastR s p y).2 ≤ (leastR s x y).2 := by
  obtain ⟨r1, r2, r3⟩ := hs.rate
  rw [(leastR_eq s x p).1, (leastR_eq s p y).2, (leastR_eq s x y).2, sumS_add _ h1 h2]
  have := ce_fl (a := (y - p) * 1000000) (b := (p - x) * 1000000) (d := s.rate.hi) (e := s.rate.lo) (by omega) (by omega) r2
  rw [← Int.add_mul, show y - p + (p - x) = y - x by omega] at this
  have := sumS_le (f := (·.secs.lo)) (g := (·.secs.hi)) (x := x) (y := p) (l := s.stops) (fun t ht => (hs.stops t ht).2.1)
  omega
end
theorem low_le_high {s : Session} (hs : s.R) {x y : Int} (h : x ≤ y) : (leastR s x y).1 ≤ (leastR s x y).2 := by
  obtain ⟨r1, r2, r3⟩ := hs.rate
  rw [(leastR_eq s x y).1, (leastR_eq s x y).2]
  have h1 := fl_ce (a := 0) (b := (y - x) * 1000000) (d := s.rate.hi) (e := s.rate.lo) (by omega) (by omega) r2
  rw [Int.zero_add, Int.zero_ediv, Int.zero_add] at h1
  have := sumS_le (f := (·.secs.lo)) (g := (·.secs.hi)) (x := x) (y := y) (l := s.stops) (fun t ht => (hs.stops t ht).2.1)
  omega
theorem max_of : ∀ (l : List Int), l ≠ [] → ∃ v ∈ l, ∀ a ∈ l, a ≤ v
  | [], h => absurd rfl h
  | [a], _ => ⟨a, by simp, fun b hb => by simp at hb; omega⟩
  | a :: b :: l, _ => by
    obtain ⟨v, hv, hm⟩ := max_of (b :: l) (by simp)
    by_cases h : a ≤ v
    · exact ⟨v, List.mem_cons_of_mem _ hv, fun c hc => by
        rcases List.mem_cons.1 hc with rfl | hc
        · exact h
        · exact hm c hc⟩
    · exact ⟨a, by simp, fun c hc => by
        rcases List.mem_cons.1 hc with rfl | hc
        · exact Int.le_refl _
        · have := hm c hc; omega⟩
theorem one_more {s : Session} (hs : s.R) {M : List Int} {P : Int → Int} (hpr : ∀ x ∈ M, ∀ y ∈ M, x < y → (leastR s x y).1 ≤ P y - P x ∧ P y - P x ≤ (leastR s x y).2) {p : Int} (hp : p ∉ M) (hne : M ≠ []) :
    ∃ v, (∀ x ∈ M, x < p → (leastR s x p).1 ≤ v - P x ∧ v - P x ≤ (leastR s x p).2) ∧ ∀ y ∈ M, p < y → (leastR s p y).1 ≤ P y - v ∧ P y - v ≤ (leastR s p y).2 := by
  obtain ⟨v, hv, hmax⟩ := max_of (M.map fun x => if x < p then P x + (leastR s x p).1 else P x - (leastR s p x).2) (by simpa using hne)
  obtain ⟨z, hz, rfl⟩ := List.mem_map.1 hv
  have hzp : z ≠ p := fun e => hp (e ▸ hz)
  have hlow : ∀ x ∈ M, (if x < p then P x + (leastR s x p).1 else P x - (leastR s p x).2) ≤ (if z < p then P z + (leastR s z p).1 else P z - (leastR s p z).2) := fun x hx => hmax _ (List.mem_map_of_mem hx)
  refine ⟨if z < p then P z + (leastR s z p).1 else P z - (leastR s p z).2, fun x hx hxp => ⟨?_, ?_⟩, fun y hy hpy => ⟨?_, ?_⟩⟩
  · have := hlow x hx
    rw [if_pos hxp] at this; omega
  · -- an upper bound from below
    by_cases h : z < p
    · rw [if_pos h]
      rcases Int.lt_trichotomy z x with hzx | hzx | hzx
      · have h1 := hpr z hz x hx hzx
        have h2 := low_high hs (x := z) (p := x) (y := p) (by omega) (by omega)
        omega
      · subst hzx
        have := low_le_high hs (x := z) (y := p) (by omega); omega
      · have h1 := hpr x hx z hz hzx
        have h2 := high_ge1 hs (x := x) (p := z) (y := p) (by omega) (by omega)
        omega
    · rw [if_neg h]
      have h1 := hpr x hx z hz (by omega)
      have h2 := high_add hs (x := x) (p := p) (y := z) (by omega) (by omega)
      omega
  · by_cases h : z < p
    · rw [if_pos h]
      have h1 := hpr z hz y hy (by omega)
      have h2 := low_add hs (x := z) (p := p) (y := y) (by omega) (by omega)
      omega
    · rw [if_neg h]
      rcases Int.lt_trichotomy z y with hzy | hzy | hzy
      · have h1 := hpr z hz y hy hzy
        have h2 := high_low hs (x := p) (p := z) (y := y) (by omega) (by omega)
        omega
      · subst hzy
        have := low_le_high hs (x := p) (y := z) (by omega); omega
      · have h1 := hpr y hy z hz hzy
        have h2 := high_ge2 hs (x := p) (p := y) (y := z) (by omega) (by omega)
        omega
  · have := hlow y hy
    rw [if_neg (show ¬ y < p by omega)] at this; omega
theorem Tim.more {r : Rec} (hs : r.s.R) {M M' : List Int} {p o ti te : Int} {ts : Nat → Int} {P : Int → Int} (h : Tim r M o ti te ts P) (hp : p ∉ M) (hM : ∀ a ∈ M', a ∈ M ∨ a = p)
    (m1 : r.s.zero.lo ∈ M) (m2 : r.s.zero.hi + 1 ∈ M) (m3 : r.s.fin.lo ∈ M) (m4 : r.s.fin.hi + 1 ∈ M) (m5 : ∀ x ∈ r.strikes, x.pos.lo ∈ M ∧ x.pos.hi + 1 ∈ M) : ∃ v, Tim r M' o ti te ts (fun q => if q = p then v else P q) := by
  obtain ⟨v, h1, h2⟩ := one_more hs h.pairs hp (fun e => by rw [e] at m1; cases m1)
  have e : ∀ q ∈ M, (if q = p then v else P q) = P q := fun q hq => by rw [if_neg]; rintro rfl; exact hp hq
  refine ⟨v, h.inn, h.out, h.sights, h.row, ?_, ?_, fun j x hx => ?_, fun x hx y hy hxy => ?_⟩
  · rw [e _ m1, e _ m2]; exact h.zero
  · rw [e _ m3, e _ m4]; exact h.fin
  · obtain ⟨a, b⟩ := m5 x (List.mem_of_getElem? hx)
    rw [e _ a, e _ b]; exact h.strikes j x hx
  · rcases hM x hx with hx | rfl
    · rcases hM y hy with hy | rfl
      · rw [e _ hx, e _ hy]; exact h.pairs x hx y hy hxy
      · rw [e _ hx, if_pos rfl]; exact h1 x hx hxy
    · rcases hM y hy with hy | rfl
      · rw [e _ hy, if_pos rfl]; exact h2 y hy hxy
      · omega
end Go.Proofs.Ks
