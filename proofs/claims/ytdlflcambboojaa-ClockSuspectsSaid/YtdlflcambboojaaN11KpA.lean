/-
  Contracts of functions, proved by going through their code. No conditions.
-/
import Derived.Test.YtdlflcambboojaaSaa
import Derived.Test.YtdlflcambboojaaN11KlX
import Derived.Test.YtdlflcambboojaaN11KlZ
set_option linter.unusedVariables false
set_option linter.unusedSimpArgs false
namespace Go.Proofs.Ks
open Go Go.Pg Go.Proofs
def inS (a b : Span) : Prop := b.lo ≤ a.lo ∧ a.hi ≤ b.hi
def narS : List Stop → List Stop → Prop
  | [], [] => True
  | a :: l, b :: m => b.pos = a.pos ∧ inS b.secs a.secs ∧ narS l m
  | _, _ => False
structure Nar (r x : Rec) : Prop where
  inn : inS x.s.inn r.s.inn
  out : inS x.s.out r.s.out
  zero : inS x.s.zero r.s.zero
  fin : inS x.s.fin r.s.fin
  rate : inS x.s.rate r.s.rate
  stops : narS r.s.stops x.s.stops
  ids : x.strikes.map (·.id) = r.strikes.map (·.id)
  strikes : ∀ (j : Nat) (a b : Strike), r.strikes[j]? = some a → x.strikes[j]? = some b → inS b.pos a.pos
  sights : ∀ y ∈ r.sights, y ∈ x.sights
theorem inS_refl (a : Span) : inS a a := ⟨Int.le_refl _, Int.le_refl _⟩
theorem narS_refl : ∀ l : List Stop, narS l l
  | [] => trivial
  | a :: l => ⟨rfl, inS_refl _, narS_refl l⟩
theorem narS_sum {x y : Int} : ∀ {l m : List Stop}, narS l m → sumS (·.secs.lo) x y l 0 ≤ sumS (·.secs.lo) x y m 0 ∧ sumS (·.secs.hi) x y m 0 ≤ sumS (·.secs.hi) x y l 0
  | [], [], _ => ⟨Int.le_refl _, Int.le_refl _⟩
  | [], _ :: _, h => by cases h
  | _ :: _, [], h => by cases h
  | a :: l, b :: m, h => by
    obtain ⟨h1, ⟨h2, h3⟩, h4⟩ := h
    obtain ⟨g1, g2⟩ := narS_sum (x := x) (y := y) h4
    unfold sumS
    rw [h1]
    by_cases e : x ≤ a.pos ∧ a.pos < y
    · rw [if_pos e, if_pos e, if_pos e, if_pos e, sumS_go _ x y l, sumS_go _ x y m, sumS_go _ x y l (0 + _), sumS_go _ x y m (0 + _)]
      exact ⟨by omega, by omega⟩
    · rw [if_neg e, if_neg e, if_neg e, if_neg e]
      exact ⟨g1, g2⟩
theorem nar_least {s t : Session} (hs : s.R) (ht : t.R) (hr : inS t.rate s.rate) (hst : narS s.stops t.stops) {x y : Int} (h : x ≤ y) : (leastR s x y).1 ≤ (leastR t x y).1 ∧ (leastR t x y).2 ≤ (leastR s x y).2 := by
  obtain ⟨r1, r2, r3⟩ := hs.rate
  obtain ⟨q1, q2, q3⟩ := ht.rate
  obtain ⟨p1, p2⟩ := hr
  obtain ⟨g1, g2⟩ := narS_sum (x := x) (y := y) hst
  rw [(leastR_eq s x y).1, (leastR_eq s x y).2, (leastR_eq t x y).1, (leastR_eq t x y).2]
  have ha : 0 ≤ (y - x) * 1000000 := by omega
  obtain ⟨A, hA⟩ : ∃ A, (y - x) * 1000000 = A := ⟨_, rfl⟩
  rw [hA] at ha ⊢
  have f1 : A / s.rate.hi ≤ A / t.rate.hi := by
    rw [fl_iff (by omega)]
    have h1 := fl_mul (a := A) (d := s.rate.hi) (by omega)
    have h2 := Int.mul_le_mul_of_nonneg_left p2 (fl_nn (a := A) (d := s.rate.hi) ha (by omega))
    omega
  have f2 : (A + t.rate.lo - 1) / t.rate.lo ≤ (A + s.rate.lo - 1) / s.rate.lo := by
    rw [ce_iff (by omega)]
    have h1 := ce_mul (a := A) (d := s.rate.lo) (by omega)
    have h2 := Int.mul_le_mul_of_nonneg_left p1 (ce_nn (a := A) (d := s.rate.lo) ha (by omega))
    omega
  omega
theorem strikeI_ids (n : Int) : ∀ {l m : List Strike} (i : Nat), l.map (·.id) = m.map (·.id) → strikeI n i l = strikeI n i m
  | [], [], _, _ => rfl
  | [], _ :: _, _, h => by simp at h
  | _ :: _, [], _, h => by simp at h
  | a :: l, b :: m, i, h => by
    simp only [zX, List.cons.injEq] at h
    unfold strikeI
    rw [h.1, strikeI_ids n _ h.2]
theorem tim_ext {x : Rec} (hs : x.s.R) {o ti te : Int} {ts : Nat → Int} : ∀ (N M : List Int) (P : Int → Int), Tim x M o ti te ts P → (∀ a ∈ marksR x [], a ∈ M) →
    ∃ M' P', Tim x M' o ti te ts P' ∧ (∀ a ∈ M, a ∈ M') ∧ ∀ a ∈ N, a ∈ M'
  | [], M, P, h, hM => ⟨M, P, h, fun _ ha => ha, fun _ ha => by cases ha⟩
  | p :: N, M, P, h, hM => by
    by_cases hp : p ∈ M
    · obtain ⟨M', P', h1, h2, h3⟩ := tim_ext hs N M P h hM
      refine ⟨M', P', h1, h2, fun a ha => ?_⟩
      rcases List.mem_cons.1 ha with rfl | ha
      · exact h2 _ hp
      · exact h3 a ha
    · obtain ⟨m1, m2, m3, m4, m5⟩ := marks_ends x []
      obtain ⟨v, hv⟩ := Tim.more (M' := p :: M) hs h hp (fun a ha => (List.mem_cons.1 ha).elim .inr .inl) (hM _ m1) (hM _ m2) (hM _ m3) (hM _ m4) (fun u hu => ⟨hM _ (m5 u hu).1, hM _ (m5 u hu).2⟩)
      obtain ⟨M', P', h1, h2, h3⟩ := tim_ext hs N (p :: M) _ hv (fun a ha => List.mem_cons_of_mem _ (hM a ha))
      refine ⟨M', P', h1, fun a ha => h2 a (List.mem_cons_of_mem _ ha), fun a ha => ?_⟩
      rcases List.mem_cons.1 ha with rfl | ha
      · exact h2 _ (by simp)
      · exact h3 a ha
theorem nar_tim {r x : Rec} (hn : Nar r x) (hr : r.V) (hx : x.V) {o ti te : Int} {ts : Nat → Int} {P : Int → Int} (h : Tim x (marksR x []) o ti te ts P) : ∃ P', Tim r (marksR r []) o ti te ts P' := by
  obtain ⟨M, Q, hT, hM, hN⟩ := tim_ext hx.r (marksR r []) _ P h (fun _ ha => ha)
  have hlen : x.strikes.length = r.strikes.length := by
    have := congrArg List.length hn.ids
    simpa using this
  have hle : ∀ {a b : Int}, a ∈ M → b ∈ M → 0 ≤ a → a ≤ b → b ≤ 43200 → Q a ≤ Q b := fun {a b} ha hb h0 h1 h2 => by
    rcases Int.lt_or_eq_of_le h1 with h3 | rfl
    · have h4 := hT.pairs a ha b hb h3
      have h5 := leastR_bd hx.r h0 h1 h2
      omega
    · exact Int.le_refl _
  obtain ⟨m1, m2, m3, m4, m5⟩ := marks_ends r []
  obtain ⟨x1, x2, x3, x4, x5⟩ := marks_ends x []
  have bd : ∀ {a}, a ∈ marksR r [] → 0 ≤ a ∧ a ≤ 43200 := fun {a} ha => marks_bd hr ha
  have bx : ∀ {a}, a ∈ marksR x [] → 0 ≤ a ∧ a ≤ 43200 := fun {a} ha => marks_bd hx ha
  have two : ∀ {a b : Int}, a ∈ marksR r [] → b ∈ marksR x [] → (a ≤ b → Q a ≤ Q b) ∧ (b ≤ a → Q b ≤ Q a) := fun {a b} ha hb =>
    ⟨fun h => hle (hN a ha) (hM b hb) (bd ha).1 h (bx hb).2, fun h => hle (hM b hb) (hN a ha) (bx hb).1 h (bd ha).2⟩
  refine ⟨Q, ?_, ?_, fun y hy => ?_, fun j hj => ?_, ?_, ?_, fun j a ha => ?_, fun a ha b hb hab => ?_⟩
  · have := hT.inn; have := hn.inn; unfold inS at this; omega
  · have := hT.out; have := hn.out; unfold inS at this; omega
  · have := hT.sights y (hn.sights y hy)
    rwa [strikeI_ids _ _ hn.ids] at this
  · have := hT.row j (by omega)
    rwa [hlen] at this
  · have h1 := hT.zero
    have h2 := hn.zero; unfold inS at h2
    have h3 := (two m1 x1).1 (by omega)
    have h4 := (two m2 x2).2 (by omega)
    omega
  · have h1 := hT.fin
    have h2 := hn.fin; unfold inS at h2
    have h3 := (two m3 x3).1 (by omega)
    have h4 := (two m4 x4).2 (by omega)
    omega
  · have hj : j < x.strikes.length := by
      have := (List.getElem?_eq_some_iff.1 ha).1; omega
    have hb : x.strikes[j]? = some x.strikes[j] := List.getElem?_eq_getElem hj
    have h1 := hT.strikes j _ hb
    have h2 := hn.strikes j a _ ha hb; unfold inS at h2
    have e1 := m5 a (List.mem_of_getElem? ha)
    have e2 := x5 _ (List.mem_of_getElem? hb)
    have h3 := (two e1.1 e2.1).1 (by omega)
    have h4 := (two e1.2 e2.2).2 (by omega)
    omega
  · have h1 := hT.pairs a (hN a ha) b (hN b hb) hab
    have h2 := nar_least hr.r hx.r hn.rate hn.stops (x := a) (y := b) (by omega)
    omega
theorem nar_spans {r x : Rec} (hn : Nar r x) (hc : checkE r = 0) (hcx : checkE x = 0) (hq : consP x [] = true) :
    consP r [] = true ∧ ∀ i, i < r.strikes.length → ∃ u v, (spansP r)[i]? = some u ∧ (spansP x)[i]? = some v ∧ u.lo ≤ v.lo ∧ v.hi ≤ u.hi := by
  have hv := checkE_V hc
  have hvx := checkE_V hcx
  have hlen : x.strikes.length = r.strikes.length := by
    have := congrArg List.length hn.ids
    simpa using this
  have hqr : consP r [] = true := by
    rw [cons_tim hvx (by decide) nomore] at hq
    rw [cons_tim hv (by decide) nomore]
    obtain ⟨o, ti, te, ts, P, h⟩ := hq
    obtain ⟨Q, h'⟩ := nar_tim hn hv hvx h
    exact ⟨o, ti, te, ts, Q, h'⟩
  refine ⟨hqr, fun i hi => ?_⟩
  refine ⟨_, _, spansP_get hi, spansP_get (by omega), ?_⟩
  obtain ⟨f1, f2, f3, f4, f5⟩ := links_facts (more := []) hv (by decide) nomore
  obtain ⟨e1, e2, e3, e4, e5⟩ := links_facts (more := []) hvx (by decide) nomore
  have hl := nodesR_len r []
  have hlx := nodesR_len x []
  have n1 : NoNeg (linksR r []) := (lengths_noNeg f3 (by decide : (0 : Int) ≤ 1073741823) f4 (facts_far f1)).1 (of_decide_eq_true hqr)
  have n2 : NoNeg (linksR x []) := (lengths_noNeg e3 (by decide : (0 : Int) ≤ 1073741823) e4 (facts_far e1)).1 (of_decide_eq_true hq)
  have hmap : ∀ f, Sat f (linksR x []) → ∃ g, Sat g (linksR r []) ∧ g 0 = f 0 ∧ g (3 + i) = f (3 + i) := fun f hf => by
    obtain ⟨Q, h'⟩ := nar_tim hn hv hvx (tim_of hvx hf)
    exact ⟨_, sat_of hv h', rfl, pot_strike hi⟩
  have a1 := dist_le e3 f3 (by decide : (0 : Int) ≤ 1073741823) e4 f4 (facts_far e1) (facts_far f1) n2 n1 (s := 0) (k := 3 + i) (s' := 0) (k' := 3 + i) (by omega) (by omega) (by omega) hmap
  have a2 := dist_le e3 f3 (by decide : (0 : Int) ≤ 1073741823) e4 f4 (facts_far e1) (facts_far f1) n2 n1 (s := 3 + i) (k := 0) (s' := 3 + i) (k' := 0) (by omega) (by omega) (by omega) (fun f hf => by
    obtain ⟨g, g1, g2, g3⟩ := hmap f hf
    exact ⟨g, g1, g3, g2⟩)
  unfold spanF
  dsimp only
  omega
end Go.Proofs.Ks
