/-
  The spans in which a door is open: as the program finds them and as the document has them. No conditions.
-/
import Derived.Test.YtofdhddbfjfkcaaDoorHb
import Derived.Test.YtofdhddbfjfkcaaDoorHe
import Derived.Test.YtofdhddbfjfkcaaDoorVa
set_option linter.unusedSimpArgs false
set_option linter.unusedVariables false
namespace Go.Proofs.Hs
open Go Go.Pg Go.Proofs

/-! ## Spans that do not touch -/
def cov (l : List Span) (n : Int) : Prop := ∃ x ∈ l, x.lo ≤ n ∧ n ≤ x.hi
structure Apart (l : List Span) : Prop where
  le : ∀ x ∈ l, x.lo ≤ x.hi
  pw : l.Pairwise (fun a b => a.hi + 2 ≤ b.lo)
theorem Apart.tail {x : Span} {l : List Span} (h : Apart (x :: l)) : Apart l := ⟨fun y hy => h.le y (by simp [hy]), (List.pairwise_cons.1 h.pw).2⟩
theorem Apart.ahead {x : Span} {l : List Span} (h : Apart (x :: l)) {n : Int} (hn : cov l n) : x.hi + 2 ≤ n := by
  obtain ⟨y, hy, h1, h2⟩ := hn
  have := (List.pairwise_cons.1 h.pw).1 y hy
  omega
theorem Apart.lo {x : Span} {l : List Span} (h : Apart (x :: l)) {n : Int} (hn : cov (x :: l) n) : x.lo ≤ n := by
  obtain ⟨y, hy, h1, h2⟩ := hn
  rcases List.mem_cons.1 hy with rfl | hy
  · exact h1
  · have := h.ahead ⟨y, hy, h1, h2⟩
    have := h.le x (by simp)
    omega
theorem cov_cons {x : Span} {l : List Span} {n : Int} : cov (x :: l) n ↔ (x.lo ≤ n ∧ n ≤ x.hi) ∨ cov l n := by
  unfold cov; simp only [List.mem_cons, exists_eq_or_imp]
theorem cov_append {l m : List Span} {n : Int} : cov (l ++ m) n ↔ cov l n ∨ cov m n := by
  unfold cov; simp only [List.mem_append, or_and_right, exists_or]
theorem cov_nil {n : Int} : ¬ cov [] n := by rintro ⟨x, hx, _⟩; cases hx
theorem apart_unique : ∀ (l m : List Span), Apart l → Apart m → (∀ n, cov l n ↔ cov m n) → l = m
  | [], [], _, _, _ => rfl
  | [], y :: m, _, hm, h => absurd ((h y.lo).2 ⟨y, by simp, Int.le_refl _, hm.le y (by simp)⟩) cov_nil
  | x :: l, [], hl, _, h => absurd ((h x.lo).1 ⟨x, by simp, Int.le_refl _, hl.le x (by simp)⟩) cov_nil
  | x :: l, y :: m, hl, hm, h => by
    have hx := hl.le x (by simp)
    have hy := hm.le y (by simp)
    have h1 := hm.lo ((h x.lo).1 ⟨x, by simp, Int.le_refl _, hx⟩)
    have h2 := hl.lo ((h y.lo).2 ⟨y, by simp, Int.le_refl _, hy⟩)
    have h3 : x.hi = y.hi := by
      rcases Int.lt_trichotomy x.hi y.hi with hlt | he | hlt
      · exfalso
        rcases cov_cons.1 ((h (x.hi + 1)).2 ⟨y, by simp, by omega, by omega⟩) with hc | hc
        · omega
        · have := hl.ahead hc; omega
      · exact he
      · exfalso
        rcases cov_cons.1 ((h (y.hi + 1)).1 ⟨x, by simp, by omega, by omega⟩) with hc | hc
        · omega
        · have := hm.ahead hc; omega
    have h4 : x = y := by cases x; cases y; simp only [Span.mk.injEq]; exact ⟨by simp only at *; omega, h3⟩
    rw [h4, apart_unique l m hl.tail hm.tail fun n => ⟨fun hc => ?_, fun hc => ?_⟩]
    · rcases cov_cons.1 ((h n).1 (cov_cons.2 (.inr hc))) with hd | hd
      · have := hl.ahead hc; omega
      · exact hd
    · rcases cov_cons.1 ((h n).2 (cov_cons.2 (.inr hc))) with hd | hd
      · have := hm.ahead hc; omega
      · exact hd

/-! ## Putting a span behind others -/
def lastS (out : List Span) : Span := out.getD (out.length - 1) ⟨0, 0⟩
def putO (out : List Span) (x : Span) : List Span := if 0 < out.length ∧ x.lo ≤ (lastS out).hi + 1 then out.set (out.length - 1) ⟨(lastS out).lo, x.hi⟩ else out ++ [x]
theorem lastS_snoc (l : List Span) (z : Span) : lastS (l ++ [z]) = z := by
  unfold lastS
  rw [List.length_append, List.length_singleton, Nat.add_sub_cancel, List.getD_eq_getElem?_getD, List.getElem?_append_right (Nat.le_refl _)]
  simp
theorem set_snoc (l : List Span) (z y : Span) : (l ++ [z]).set ((l ++ [z]).length - 1) y = l ++ [y] := by
  rw [List.length_append, List.length_singleton, Nat.add_sub_cancel, List.set_append_right _ _ (Nat.le_refl _)]
  simp

/-- What is open from one time up to another one. -/
structure Built (d : Door) (from' u : Int) (out : List Span) : Prop where
  apart : Apart out
  is : ∀ n, cov out n ↔ openR d n = true ∧ from' ≤ n ∧ n < u
theorem Built.put {d : Door} {from' u : Int} {out : List Span} (h : Built d from' u out) {x : Span} (h1 : from' ≤ u) (h2 : u ≤ x.lo) (h3 : x.lo ≤ x.hi) (ho : ∀ n, x.lo ≤ n → n ≤ x.hi → openR d n = true) (hno : ∀ n, u ≤ n → n < x.lo → openR d n ≠ true) : Built d from' (x.hi + 1) (putO out x) := by
  have key : ∀ n, (openR d n = true ∧ from' ≤ n ∧ n < x.hi + 1) ↔ cov out n ∨ (x.lo ≤ n ∧ n ≤ x.hi) := fun n => by
    rw [h.is n]
    constructor
    · rintro ⟨a, b, c⟩
      by_cases hx : x.lo ≤ n
      · exact .inr ⟨hx, by omega⟩
      · by_cases hu : u ≤ n
        · exact absurd a (hno n hu (by omega))
        · exact .inl ⟨a, b, by omega⟩
    · rintro (⟨a, b, c⟩ | ⟨a, b⟩)
      · exact ⟨a, b, by omega⟩
      · exact ⟨ho n a b, by omega, by omega⟩
  rcases List.eq_nil_or_concat out with rfl | ⟨l, z, rfl⟩
  · have : putO [] x = [x] := rfl
    rw [this]
    refine ⟨⟨fun y hy => by rw [List.mem_singleton.1 hy]; exact h3, List.pairwise_singleton _ _⟩, fun n => ?_⟩
    rw [key n, cov_cons]
    constructor
    · rintro (a | a)
      · exact .inr a
      · exact absurd a cov_nil
    · rintro (a | a)
      · exact absurd a cov_nil
      · exact .inl a
  · rw [List.concat_eq_append] at *
    have hz := h.apart.le z (by simp)
    have hzu : z.hi < u := ((h.is z.hi).1 ⟨z, by simp, hz, Int.le_refl _⟩).2.2
    have hpw := List.pairwise_append.1 h.apart.pw
    unfold putO
    rw [lastS_snoc]
    by_cases hc : x.lo ≤ z.hi + 1
    · rw [if_pos ⟨by simp, hc⟩, set_snoc]
      refine ⟨⟨fun y hy => ?_, List.pairwise_append.2 ⟨hpw.1, List.pairwise_singleton _ _, fun a ha b hb => ?_⟩⟩, fun n => ?_⟩
      · rcases List.mem_append.1 hy with hy | hy
        · exact h.apart.le y (by simp [hy])
        · rw [List.mem_singleton.1 hy]; dsimp only; omega
      · rw [List.mem_singleton.1 hb]; exact hpw.2.2 a ha z (by simp)
      · rw [key n, cov_append, cov_append, cov_cons, cov_cons]
        dsimp only
        constructor
        · rintro (a | a | a)
          · exact .inl (.inl a)
          · by_cases hq : n ≤ z.hi
            · exact .inl (.inr (.inl ⟨a.1, hq⟩))
            · exact .inr ⟨by omega, a.2⟩
          · exact absurd a cov_nil
        · rintro ((a | a | a) | a)
          · exact .inl a
          · exact .inr (.inl ⟨a.1, by omega⟩)
          · exact absurd a cov_nil
          · exact .inr (.inl ⟨by omega, a.2⟩)
    · rw [if_neg (fun hh => hc hh.2)]
      refine ⟨⟨fun y hy => ?_, List.pairwise_append.2 ⟨h.apart.pw, List.pairwise_singleton _ _, fun a ha b hb => ?_⟩⟩, fun n => ?_⟩
      · rcases List.mem_append.1 hy with hy | hy
        · exact h.apart.le y hy
        · rw [List.mem_singleton.1 hy]; exact h3
      · rw [List.mem_singleton.1 hb]
        rcases List.mem_append.1 ha with ha | ha
        · have := hpw.2.2 a ha z (by simp); omega
        · rw [List.mem_singleton.1 ha]; omega
      · rw [key n, cov_append (l := l ++ [z]), cov_cons (x := x)]
        constructor
        · rintro (a | a | a)
          · exact .inl a
          · exact .inr a
          · exact absurd a cov_nil
        · rintro (a | a)
          · exact .inl a
          · exact .inr (.inl a)
theorem Built.shift {d : Door} {from' u v : Int} {out : List Span} (h : Built d from' u out) (hno : ∀ n, (u ≤ n ∧ n < v) ∨ (v ≤ n ∧ n < u) → openR d n ≠ true) : Built d from' v out := by
  refine ⟨h.apart, fun n => ?_⟩
  rw [h.is n]
  constructor
  · rintro ⟨a, b, c⟩
    refine ⟨a, b, ?_⟩
    by_cases hv : n < v
    · exact hv
    · exact absurd a (hno n (.inr ⟨by omega, c⟩))
  · rintro ⟨a, b, c⟩
    refine ⟨a, b, ?_⟩
    by_cases hv : n < u
    · exact hv
    · exact absurd a (hno n (.inl ⟨by omega, c⟩))

/-! ## The program's: span after span, till one is too late -/
def stepO (hi : Int) (p : List Span × Bool) (x : Span) : List Span × Bool :=
  if p.2 = true then p else if hi < x.lo then (p.1, true) else (putO p.1 ⟨x.lo, min x.hi hi⟩, false)
def cutF (hi : Int) : List Span → Int → Int → List Span × Bool → List Span × Bool
  | [], lo, sh, p => if lo ≤ sh then stepO hi p ⟨lo, sh⟩ else p
  | x :: r, lo, sh, p => if p.2 = true then p else if x.hi < lo ∨ sh < x.lo then cutF hi r lo sh p else
    cutF hi r (x.hi + 1) sh (if lo < x.lo then stepO hi p ⟨lo, x.lo - 1⟩ else p)
def dayF (d : Door) (hi from' base : Int) : List Span → List Span × Bool → List Span × Bool
  | [], p => p
  | s :: r, p => if p.2 = true then p else dayF d hi from' base r (cutF hi d.shut (max from' (base + s.lo)) (min 1073741823 (base + s.hi)) p)
def daysF (d : Door) (hi from' : Int) : Nat → Int → List Span × Bool → List Span × Bool
  | 0, _, p => p
  | k + 1, day, p => if 1073741823 < day then p else
    if (dayF d hi from' day d.hours p).2 = true ∨ d.hours.length = 0 then dayF d hi from' day d.hours p else daysF d hi from' k (day + 86400) (dayF d hi from' day d.hours p)

theorem cutF_stop (hi : Int) : ∀ (l : List Span) (lo sh : Int) (out : List Span), cutF hi l lo sh (out, true) = (out, true)
  | [], lo, sh, out => by unfold cutF stepO; split <;> rfl
  | x :: r, lo, sh, out => by unfold cutF; rw [if_pos rfl]
theorem dayF_stop (d : Door) (hi from' base : Int) : ∀ (l : List Span) (out : List Span), dayF d hi from' base l (out, true) = (out, true)
  | [], _ => rfl
  | x :: r, out => by unfold dayF; rw [if_pos rfl]

structure InvO (d : Door) (hi from' u : Int) (p : List Span × Bool) : Prop where
  built : Built d from' (if p.2 = true then hi + 1 else min u (hi + 1)) p.1
theorem InvO.shift {d : Door} {hi from' u v : Int} {p : List Span × Bool} (h : InvO d hi from' u p) (hno : ∀ n, (u ≤ n ∧ n < v) ∨ (v ≤ n ∧ n < u) → n ≤ hi → openR d n ≠ true) : InvO d hi from' v p := by
  obtain ⟨hb⟩ := h
  refine ⟨?_⟩
  by_cases hs : p.2 = true
  · rw [if_pos hs] at hb ⊢; exact hb
  · rw [if_neg hs] at hb ⊢
    exact hb.shift fun n hn => hno n (by omega) (by omega)
theorem InvO.step {d : Door} {hi from' u : Int} {p : List Span × Bool} (h : InvO d hi from' u p) {x : Span} (h0 : from' ≤ hi) (h1 : from' ≤ u) (h2 : u ≤ x.lo) (h3 : x.lo ≤ x.hi) (ho : ∀ n, x.lo ≤ n → n ≤ x.hi → openR d n = true) (hno : ∀ n, u ≤ n → n < x.lo → n ≤ hi → openR d n ≠ true) : InvO d hi from' (x.hi + 1) (stepO hi p x) := by
  obtain ⟨hb⟩ := h
  unfold stepO
  by_cases hs : p.2 = true
  · rw [if_pos hs]; rw [if_pos hs] at hb; exact ⟨by rw [if_pos hs]; exact hb⟩
  · rw [if_neg hs] at hb ⊢
    by_cases hl : hi < x.lo
    · rw [if_pos hl]
      exact ⟨by dsimp only; rw [if_pos rfl]; exact hb.shift fun n hn => hno n (by omega) (by omega) (by omega)⟩
    · rw [if_neg hl]
      refine ⟨?_⟩
      dsimp only
      rw [if_neg (by simp), show min (x.hi + 1) (hi + 1) = min x.hi hi + 1 by omega]
      exact hb.put (x := ⟨x.lo, min x.hi hi⟩) (by omega) (by dsimp only; omega) (by dsimp only; omega) (fun n a b => ho n a (by dsimp only at b; omega)) (fun n a b => hno n (by dsimp only at b; omega) b (by dsimp only at b; omega))

theorem cutF_inv {d : Door} {hi from' : Int} (h0 : from' ≤ hi) : ∀ (l : List Span) (lo sh : Int) (p : List Span × Bool), from' ≤ lo → (∀ n, lo ≤ n → n ≤ sh → (openR d n = true ↔ ¬ cov l n)) → (∀ n, cov l n → openR d n ≠ true) → Apart l →
    InvO d hi from' lo p → InvO d hi from' (max lo (sh + 1)) (cutF hi l lo sh p)
  | [], lo, sh, p, hf, h1, _, _, hp => by
    unfold cutF
    split
    · rename_i hle
      rw [show max lo (sh + 1) = sh + 1 by omega]
      exact hp.step (x := ⟨lo, sh⟩) h0 hf (Int.le_refl _) hle (fun n a b => (h1 n a b).2 cov_nil) (fun n a b => by dsimp only at b; omega)
    · rename_i hle
      rw [show max lo (sh + 1) = lo by omega]; exact hp
  | x :: r, lo, sh, p, hf, h1, h2, ha, hp => by
    unfold cutF
    have hx := ha.le x (by simp)
    by_cases hs : p.2 = true
    · rw [if_pos hs]
      obtain ⟨hb⟩ := hp
      rw [if_pos hs] at hb
      exact ⟨by rw [if_pos hs]; exact hb⟩
    · rw [if_neg hs]
      by_cases hc : x.hi < lo ∨ sh < x.lo
      · rw [if_pos hc]
        refine cutF_inv h0 r lo sh p hf (fun n a b => ?_) (fun n hn => h2 n (cov_cons.2 (.inr hn))) ha.tail hp
        rw [h1 n a b, cov_cons]
        constructor
        · exact fun hh hr => hh (.inr hr)
        · rintro hh (hr | hr)
          · omega
          · exact hh hr
      · rw [if_neg hc]
        have hcl : ∀ n, x.lo ≤ n → n ≤ x.hi → openR d n ≠ true := fun n a b => h2 n (cov_cons.2 (.inl ⟨a, b⟩))
        have hstep : InvO d hi from' (x.hi + 1) (if lo < x.lo then stepO hi p ⟨lo, x.lo - 1⟩ else p) := by
          split
          · rename_i hlt
            have h3 := hp.step (x := ⟨lo, x.lo - 1⟩) h0 hf (Int.le_refl _) (by dsimp only; omega) (fun n a b => by
              dsimp only at a b
              refine (h1 n a (by omega)).2 fun hh => ?_
              have := ha.lo hh
              omega) (fun n a b => by dsimp only at b; omega)
            exact h3.shift fun n hn _ => by
              dsimp only at hn
              rcases hn with hn | hn
              · exact hcl n (by omega) (by omega)
              · omega
          · exact hp.shift fun n hn _ => by
              rcases hn with hn | hn
              · exact hcl n (by omega) (by omega)
              · omega
        have h4 := cutF_inv h0 r (x.hi + 1) sh _ (by omega) (fun n a b => by
          rw [h1 n (by omega) b, cov_cons]
          constructor
          · exact fun hh hr => hh (.inr hr)
          · rintro hh (hr | hr)
            · omega
            · exact hh hr) (fun n hn => h2 n (cov_cons.2 (.inr hn))) ha.tail hstep
        exact h4.shift fun n hn _ => by
          rcases hn with hn | hn
          · omega
          · exact hcl n (by omega) (by omega)

theorem dayF_inv {d : Door} (hd : d.V) {hi from' base : Int} (h0 : from' ≤ hi) (hf0 : 0 ≤ from') (hhi : hi ≤ 1073741823) (hb0 : 0 ≤ base) (hb : base % 86400 = 0) : ∀ (l : List Span) (c : Int) (p : List Span × Bool), 0 ≤ c → c ≤ 86400 → Apart l → (∀ x ∈ l, c ≤ x.lo ∧ x.hi ≤ 86399) → (∀ x ∈ l, x ∈ d.hours) → (∀ n, c ≤ n → (cov d.hours n ↔ cov l n)) →
    InvO d hi from' (max from' (base + c)) p → InvO d hi from' (max from' (base + 86400)) (dayF d hi from' base l p)
  | [], c, p, hc0, hc1, _, _, _, hcov, hp => by
    unfold dayF
    refine hp.shift fun n hn _ ho => ?_
    rw [openR_iff (by omega)] at ho
    obtain ⟨⟨x, hx, x1, x2⟩, _⟩ := ho
    have hv := hd.hours.2.1 x hx
    rcases hn with hn | hn
    · exact cov_nil ((hcov (n - base) (by omega)).1 ⟨x, hx, by omega, by omega⟩)
    · omega
  | s :: r, c, p, hc0, hc1, ha, hl, hlm, hcov, hp => by
    unfold dayF
    by_cases hs : p.2 = true
    · rw [if_pos hs]
      obtain ⟨hb⟩ := hp
      rw [if_pos hs] at hb
      exact ⟨by rw [if_pos hs]; exact hb⟩
    · rw [if_neg hs]
      have hsl := hl s (by simp)
      have hse := ha.le s (by simp)
      have hsm := hlm s (by simp)
      have hpw := (List.pairwise_cons.1 ha.pw).1
      have h1 : InvO d hi from' (max from' (base + s.lo)) p := hp.shift fun n hn _ ho => by
        rw [openR_iff (by omega)] at ho
        obtain ⟨⟨x, hx, x1, x2⟩, _⟩ := ho
        have hv := hd.hours.2.1 x hx
        rcases hn with hn | hn
        · have := ha.lo ((hcov (n - base) (by omega)).1 ⟨x, hx, by omega, by omega⟩)
          omega
        · omega
      have h2 := cutF_inv h0 d.shut (max from' (base + s.lo)) (min 1073741823 (base + s.hi)) p (by omega) (fun n a b => by
        rw [openR_iff (by omega)]
        constructor
        · rintro ⟨_, hh⟩ ⟨y, hy, hq⟩
          exact hh y hy hq
        · intro hh
          exact ⟨⟨s, hsm, by omega, by omega⟩, fun y hy hq => hh ⟨y, hy, hq⟩⟩) (fun n hn ho => by
        obtain ⟨y, hy, hq⟩ := hn
        have hv := hd.shut.2.1 y hy
        rw [openR_iff (by omega)] at ho
        exact ho.2 y hy hq) ⟨fun y hy => (hd.shut.2.1 y hy).2.1, hd.shut.2.2⟩ h1
      refine dayF_inv hd h0 hf0 hhi hb0 hb r (s.hi + 1) _ (by omega) (by omega) ha.tail (fun x hx => ⟨by have := hpw x hx; omega, (hl x (by simp [hx])).2⟩) (fun x hx => hlm x (by simp [hx])) (fun n hn => ?_) (h2.shift fun n hn hh => by omega)
      rw [hcov n (by omega), cov_cons]
      constructor
      · rintro (a | a)
        · omega
        · exact a
      · exact fun a => .inr a

theorem daysF_inv {d : Door} (hd : d.V) {hi from' : Int} (h0 : from' ≤ hi) (hf0 : 0 ≤ from') (hhi : hi ≤ 1073741823) : ∀ (k : Nat) (day : Int) (p : List Span × Bool), 0 ≤ day → day % 86400 = 0 → (1073741823 - day < (k : Int)) →
    InvO d hi from' (max from' day) p → Built d from' (hi + 1) (daysF d hi from' k day p).1
  | 0, day, p, hd0, hdm, hk, hp => by
    unfold daysF
    obtain ⟨hb⟩ := hp
    split at hb
    · exact hb
    · rw [show min (max from' day) (hi + 1) = hi + 1 by omega] at hb; exact hb
  | k + 1, day, p, hd0, hdm, hk, hp => by
    unfold daysF
    by_cases hq : 1073741823 < day
    · rw [if_pos hq]
      obtain ⟨hb⟩ := hp
      split at hb
      · exact hb
      · rw [show min (max from' day) (hi + 1) = hi + 1 by omega] at hb; exact hb
    · rw [if_neg hq]
      have h1 := dayF_inv hd h0 hf0 hhi hd0 hdm d.hours 0 p (Int.le_refl _) (by omega) ⟨fun x hx => (hd.hours.2.1 x hx).2.1, hd.hours.2.2⟩ (fun x hx => ⟨(hd.hours.2.1 x hx).1, (hd.hours.2.1 x hx).2.2⟩) (fun x hx => hx) (fun n _ => Iff.rfl) (by rw [show day + 0 = day by omega]; exact hp)
      by_cases hc : (dayF d hi from' day d.hours p).2 = true ∨ d.hours.length = 0
      · rw [if_pos hc]
        rcases hc with hc | hc
        · obtain ⟨hb⟩ := h1
          rw [if_pos hc] at hb; exact hb
        · have hnil : d.hours = [] := List.eq_nil_of_length_eq_zero hc
          have h2 := h1.shift (v := hi + 1) fun n hn hh ho => by
            by_cases hn0 : 0 ≤ n
            · rw [openR_iff hn0, hnil] at ho
              obtain ⟨⟨x, hx, _⟩, _⟩ := ho
              cases hx
            · omega
          obtain ⟨hb⟩ := h2
          split at hb
          · exact hb
          · rw [Int.min_self] at hb; exact hb
      · rw [if_neg hc]
        exact daysF_inv hd h0 hf0 hhi k (day + 86400) _ (by omega) (by omega) (by omega) (h1.shift fun n hn _ => by omega)

/-! ## The document's: edge after edge -/
def edge1 (t lo hi b : Int) : Int := if t ≤ hi then min (if t < lo then min b (lo - 1) else b) hi else (if t < lo then min b (lo - 1) else b)
def edgeR (d : Door) (t : Int) : Int := d.shut.foldl (fun b x => edge1 t x.lo x.hi b) (d.hours.foldl (fun b x => edge1 t (t / 86400 * 86400 + x.lo) (t / 86400 * 86400 + x.hi) b) (t / 86400 * 86400 + 86399))
theorem edge1_le (t lo hi b : Int) : edge1 t lo hi b ≤ b ∧ (t < lo → edge1 t lo hi b < lo) ∧ (t ≤ hi → edge1 t lo hi b ≤ hi) ∧ (t ≤ b → t ≤ edge1 t lo hi b) := by
  unfold edge1; split <;> split <;> omega
theorem edge_fold {α : Type} (t : Int) (lo hi : α → Int) : ∀ (l : List α) (b : Int), l.foldl (fun b x => edge1 t (lo x) (hi x) b) b ≤ b ∧ (t ≤ b → t ≤ l.foldl (fun b x => edge1 t (lo x) (hi x) b) b) ∧
    ∀ x ∈ l, (t < lo x → l.foldl (fun b x => edge1 t (lo x) (hi x) b) b < lo x) ∧ (t ≤ hi x → l.foldl (fun b x => edge1 t (lo x) (hi x) b) b ≤ hi x)
  | [], b => ⟨Int.le_refl _, fun h => h, fun x hx => by cases hx⟩
  | y :: l, b => by
    obtain ⟨i1, i2, i3⟩ := edge_fold t lo hi l (edge1 t (lo y) (hi y) b)
    obtain ⟨e1, e2, e3, e4⟩ := edge1_le t (lo y) (hi y) b
    simp only [List.foldl_cons]
    refine ⟨by omega, fun h => i2 (e4 h), fun x hx => ?_⟩
    rcases List.mem_cons.1 hx with rfl | hx
    · exact ⟨fun h => by have := e2 h; omega, fun h => by have := e3 h; omega⟩
    · exact i3 x hx
theorem edgeR_spec {d : Door} {t : Int} (h0 : 0 ≤ t) : t ≤ edgeR d t ∧ ∀ n, t ≤ n → n ≤ edgeR d t → openR d n = openR d t := by
  obtain ⟨a1, a2, a3⟩ := edge_fold t (fun x : Span => t / 86400 * 86400 + x.lo) (fun x => t / 86400 * 86400 + x.hi) d.hours (t / 86400 * 86400 + 86399)
  obtain ⟨b1, b2, b3⟩ := edge_fold t (fun x : Span => x.lo) (fun x => x.hi) d.shut (d.hours.foldl (fun b x => edge1 t (t / 86400 * 86400 + x.lo) (t / 86400 * 86400 + x.hi) b) (t / 86400 * 86400 + 86399))
  have e : d.shut.foldl (fun b x => edge1 t x.lo x.hi b) (d.hours.foldl (fun b x => edge1 t (t / 86400 * 86400 + x.lo) (t / 86400 * 86400 + x.hi) b) (t / 86400 * 86400 + 86399)) = edgeR d t := rfl
  rw [e] at b1 b2 b3
  refine ⟨b2 (a2 (by omega)), fun n hn hne => ?_⟩
  have hday : n / 86400 * 86400 = t / 86400 * 86400 := by omega
  rw [Bool.eq_iff_iff, openR_iff (by omega), openR_iff h0, hday]
  constructor
  · rintro ⟨⟨x, hx, x1, x2⟩, hs⟩
    obtain ⟨c1, c2⟩ := a3 x hx
    refine ⟨⟨x, hx, ?_, ?_⟩, fun y hy hq => ?_⟩
    · by_cases hq : t < t / 86400 * 86400 + x.lo
      · have := c1 hq; omega
      · omega
    · omega
    · obtain ⟨c3, c4⟩ := b3 y hy
      have := c4 hq.2
      exact hs y hy ⟨by omega, by omega⟩
  · rintro ⟨⟨x, hx, x1, x2⟩, hs⟩
    obtain ⟨c1, c2⟩ := a3 x hx
    refine ⟨⟨x, hx, by omega, ?_⟩, fun y hy hq => ?_⟩
    · have := c2 (by omega); omega
    · obtain ⟨c3, c4⟩ := b3 y hy
      refine hs y hy ⟨?_, by omega⟩
      by_cases hq2 : t < y.lo
      · have := c3 hq2; omega
      · omega

def putR (out : List Span) (t e : Int) : List Span := if 0 < out.length ∧ (lastS out).hi = t - 1 then out.set (out.length - 1) ⟨(lastS out).lo, e⟩ else out ++ [⟨t, e⟩]
def refF (d : Door) (hi : Int) : Nat → Int → List Span → List Span
  | 0, _, out => out
  | k + 1, t, out => if hi < t then out else refF d hi k (min (edgeR d t) hi + 1) (if openR d t = true then putR out t (min (edgeR d t) hi) else out)
theorem putR_eq {d : Door} {from' t e : Int} {out : List Span} (h : Built d from' t out) : putR out t e = putO out ⟨t, e⟩ := by
  unfold putR putO
  rcases List.eq_nil_or_concat out with rfl | ⟨l, z, rfl⟩
  · rfl
  · rw [List.concat_eq_append] at *
    have hz := h.apart.le z (by simp)
    have hzu : z.hi < t := ((h.is z.hi).1 ⟨z, by simp, hz, Int.le_refl _⟩).2.2
    rw [lastS_snoc]
    by_cases hc : z.hi = t - 1
    · rw [if_pos ⟨by simp, hc⟩, if_pos ⟨by simp, by dsimp only; omega⟩]
    · rw [if_neg (fun hh => hc hh.2), if_neg (fun hh => hc (by have := hh.2; dsimp only at this; omega))]
theorem refF_built {d : Door} {hi from' : Int} (hf0 : 0 ≤ from') : ∀ (k : Nat) (t : Int) (out : List Span), from' ≤ t → t ≤ hi + 1 → hi - t < (k : Int) → Built d from' t out → Built d from' (hi + 1) (refF d hi k t out)
  | 0, t, out, h1, h2, hk, hb => by
    unfold refF
    rw [show hi + 1 = t by omega]; exact hb
  | k + 1, t, out, h1, h2, hk, hb => by
    unfold refF
    split
    · rw [show hi + 1 = t by omega]; exact hb
    · obtain ⟨e1, e2⟩ := edgeR_spec (d := d) (t := t) (by omega)
      refine refF_built hf0 k _ _ (by omega) (by omega) (by omega) ?_
      split
      · rename_i ho
        rw [putR_eq hb]
        exact hb.put (x := ⟨t, min (edgeR d t) hi⟩) h1 (Int.le_refl _) (by dsimp only; omega) (fun n a b => by dsimp only at a b; rw [e2 n a (by omega)]; exact ho) (fun n a b => by dsimp only at b; omega)
      · rename_i ho
        exact hb.shift fun n hn hq => by
          rcases hn with hn | hn
          · rw [e2 n hn.1 (by omega)] at hq; exact ho hq
          · omega

/-- The program's spans, and the document's. -/
def openL (d : Door) (s : Span) : List Span := (daysF d s.hi s.lo (1073741824 - s.lo / 86400 * 86400).toNat (s.lo / 86400 * 86400) ([], false)).1
def openLR (d : Door) (s : Span) : List Span := refF d s.hi (s.hi - s.lo + 1).toNat s.lo []
theorem built_nil (d : Door) (t : Int) : Built d t t [] := ⟨⟨(fun x hx => by cases hx), List.Pairwise.nil⟩, fun n => ⟨fun h => absurd h cov_nil, fun h => by omega⟩⟩
theorem openL_built {d : Door} (hd : d.V) {s : Span} (hs : 0 ≤ s.lo ∧ s.lo ≤ s.hi ∧ s.hi ≤ 1073741823) : Built d s.lo (s.hi + 1) (openL d s) := by
  refine daysF_inv hd hs.2.1 hs.1 hs.2.2 _ _ _ (by omega) (by omega) (by omega) ⟨?_⟩
  rw [if_neg (by simp), show min (max s.lo (s.lo / 86400 * 86400)) (s.hi + 1) = s.lo by omega]
  exact built_nil d s.lo
theorem openL_eq {d : Door} (hd : d.V) {s : Span} (hs : 0 ≤ s.lo ∧ s.lo ≤ s.hi ∧ s.hi ≤ 1073741823) : openL d s = openLR d s := by
  have h1 := openL_built hd hs
  have h2 : Built d s.lo (s.hi + 1) (openLR d s) := refF_built hs.1 _ _ _ (Int.le_refl _) (by omega) (by omega) (built_nil d s.lo)
  exact apart_unique _ _ h1.apart h2.apart fun n => by rw [h1.is n, h2.is n]
end Go.Proofs.Hs

set_option maxHeartbeats 8000000
set_option maxRecDepth 10000
namespace Go.Proofs.Hs
open Go Go.Pg Go.Proofs

theorem doorRE_one (h : House) (n t : Int) : doorRE h n t = doorE h n [t] := (doorE_one h n t).symm
theorem IsOpenR_ok (h : House) (n t : Int) (hfit : h.Fit) : OKv cx 65 [.agg (eHouse h), ai n, ai t] (.tup [ab (isOpenH h n t).1, ai (isOpenH h n t).2]) := by
  by_cases he : doorE h n [t] = 0
  · obtain ⟨hc, ⟨hdn, hdl⟩, ht⟩ := doorE_zero he
    have her : doorRE h n t = 0 := by rw [doorRE_one]; exact he
    have ht0 := ht t (by simp)
    unfold timeOK at ht0
    have hdv := (Check_V hc).door hdn hdl
    have hdg : (h.doors.map eDoor).getD n.toNat [] = eDoor (h.door n) := getD_map eDoor h.doors _ [] ⟨[], []⟩ (by omega)
    have hE : isOpenH h n t = (openR (h.door n) t, 0) := by 
      unfold isOpenH
      rw [if_neg (by simp [he])]
      have h2 := next_open hdv ht0.1 ht0.2
      have h3 : decide (next (h.door n) t = t) = openR (h.door n) t := by rw [Bool.eq_iff_iff, decide_eq_true_eq]; exact h2
      rw [h3]
    rw [hE]
    refine OKat.of_body (rs := [6, 7]) Tryd.func65 rfl (by decide +kernel) rfl (by simp [Tryd.ntmps65]) ?_
    simp only [Tryd.ntmps65]
    repeat' first
      | apply AW.seq | apply AW.region | apply AW.ret | apply AW.block | apply AW.skip | apply AW.exit | apply AW.scope | apply AW.label | apply AWL.nil
      | ((first | (apply W.step cx_ok; decide) | apply AW.cond); (simp (disch := omega) only [push_cast, simprocAttr, her, hdn, hdl, hdg] <;> rfl); all_goals try ((with_reducible intro hI); try first | (cases hI; done) | (simp only [INTS, not_true_eq_false] at hI; try first | (exfalso; omega) | (have hT : True := hI; clear hT hI))))
      | ((apply W.callv cx_ok; decide); (iterate 2 (simp (disch := omega) only [push_cast, simprocAttr, her, hdn, hdl, hdg] <;> rfl)); (with_reducible first | exact doorR_ok _ _ _ hfit | exact openR_ok _ _ (by have := hdv.hours.1; omega) (by have := hdv.shut.1; omega)); try first | rfl | (simp (disch := omega) only [push_cast, simprocAttr, her, hdn, hdl, hdg] <;> rfl))
      | ((first | apply W.ret2 | apply W.end2); (iterate 2 (try (simp (disch := omega) only [push_cast, simprocAttr, her, hdn, hdl, hdg] <;> rfl))))
    all_goals (show _ = _; rfl)
  · have her : ¬ doorRE h n t = 0 := by rw [doorRE_one]; exact he
    have hE : isOpenH h n t = (false, doorRE h n t) := by rw [doorRE_one]; exact if_pos he
    rw [hE]
    refine OKat.of_body (rs := [6, 7]) Tryd.func65 rfl (by decide +kernel) rfl (by simp [Tryd.ntmps65]) ?_
    simp only [Tryd.ntmps65]
    repeat' first
      | apply AW.seq | apply AW.region | apply AW.ret | apply AW.block | apply AW.skip | apply AW.exit | apply AW.scope | apply AW.label | apply AWL.nil
      | ((first | (apply W.step cx_ok; decide) | apply AW.cond); (simp (disch := omega) only [push_cast, simprocAttr, her] <;> rfl); all_goals try ((with_reducible intro hI); try first | (cases hI; done) | (simp only [INTS, not_true_eq_false] at hI; try first | (exfalso; omega) | (have hT : True := hI; clear hT hI))))
      | ((apply W.callv cx_ok; decide); (iterate 2 (simp (disch := omega) only [push_cast, simprocAttr, her] <;> rfl)); (with_reducible first | exact doorR_ok _ _ _ hfit); try first | rfl | (simp (disch := omega) only [push_cast, simprocAttr, her] <;> rfl))
      | ((first | apply W.ret2 | apply W.end2); (iterate 2 (try (simp (disch := omega) only [push_cast, simprocAttr, her] <;> rfl))))
    all_goals (show _ = _; rfl)
theorem NextOpenR_ok (h : House) (n t : Int) (hfit : h.Fit) : OKv cx 66 [.agg (eHouse h), ai n, ai t] (.tup [ai (nextOpenH h n t).1, ai (nextOpenH h n t).2]) := by
  by_cases he : doorE h n [t] = 0
  · obtain ⟨hc, ⟨hdn, hdl⟩, ht⟩ := doorE_zero he
    have her : doorRE h n t = 0 := by rw [doorRE_one]; exact he
    have ht0 := ht t (by simp)
    unfold timeOK at ht0
    have hdv := (Check_V hc).door hdn hdl
    have hdg : (h.doors.map eDoor).getD n.toNat [] = eDoor (h.door n) := getD_map eDoor h.doors _ [] ⟨[], []⟩ (by omega)
    have hE : nextOpenH h n t = (nextR (h.door n) t, 0) := by unfold nextOpenH; rw [if_neg (by simp [he]), nextR_is hdv ht0.1 ht0.2]
    rw [hE]
    refine OKat.of_body (rs := [6, 7]) Tryd.func66 rfl (by decide +kernel) rfl (by simp [Tryd.ntmps66]) ?_
    simp only [Tryd.ntmps66]
    repeat' first
      | apply AW.seq | apply AW.region | apply AW.ret | apply AW.block | apply AW.skip | apply AW.exit | apply AW.scope | apply AW.label | apply AWL.nil
      | ((first | (apply W.step cx_ok; decide) | apply AW.cond); (simp (disch := omega) only [push_cast, simprocAttr, her, hdn, hdl, hdg] <;> rfl); all_goals try ((with_reducible intro hI); try first | (cases hI; done) | (simp only [INTS, not_true_eq_false] at hI; try first | (exfalso; omega) | (have hT : True := hI; clear hT hI))))
      | ((apply W.callv cx_ok; decide); (iterate 2 (simp (disch := omega) only [push_cast, simprocAttr, her, hdn, hdl, hdg] <;> rfl)); (with_reducible first | exact doorR_ok _ _ _ hfit | exact nextR_ok _ _ hdv.ok (by omega) (by omega)); try first | rfl | (simp (disch := omega) only [push_cast, simprocAttr, her, hdn, hdl, hdg] <;> rfl))
      | ((first | apply W.ret2 | apply W.end2); (iterate 2 (try (simp (disch := omega) only [push_cast, simprocAttr, her, hdn, hdl, hdg] <;> rfl))))
    all_goals (show _ = _; rfl)
  · have her : ¬ doorRE h n t = 0 := by rw [doorRE_one]; exact he
    have hE : nextOpenH h n t = (0, doorRE h n t) := by rw [doorRE_one]; exact if_pos he
    rw [hE]
    refine OKat.of_body (rs := [6, 7]) Tryd.func66 rfl (by decide +kernel) rfl (by simp [Tryd.ntmps66]) ?_
    simp only [Tryd.ntmps66]
    repeat' first
      | apply AW.seq | apply AW.region | apply AW.ret | apply AW.block | apply AW.skip | apply AW.exit | apply AW.scope | apply AW.label | apply AWL.nil
      | ((first | (apply W.step cx_ok; decide) | apply AW.cond); (simp (disch := omega) only [push_cast, simprocAttr, her] <;> rfl); all_goals try ((with_reducible intro hI); try first | (cases hI; done) | (simp only [INTS, not_true_eq_false] at hI; try first | (exfalso; omega) | (have hT : True := hI; clear hT hI))))
      | ((apply W.callv cx_ok; decide); (iterate 2 (simp (disch := omega) only [push_cast, simprocAttr, her] <;> rfl)); (with_reducible first | exact doorR_ok _ _ _ hfit); try first | rfl | (simp (disch := omega) only [push_cast, simprocAttr, her] <;> rfl))
      | ((first | apply W.ret2 | apply W.end2); (iterate 2 (try (simp (disch := omega) only [push_cast, simprocAttr, her] <;> rfl))))
    all_goals (show _ = _; rfl)
theorem LastOpenR_ok (h : House) (n t : Int) (hfit : h.Fit) : OKv cx 68 [.agg (eHouse h), ai n, ai t] (.tup [ai (lastOpenH h n t).1, ai (lastOpenH h n t).2]) := by
  by_cases he : doorE h n [t] = 0
  · obtain ⟨hc, ⟨hdn, hdl⟩, ht⟩ := doorE_zero he
    have her : doorRE h n t = 0 := by rw [doorRE_one]; exact he
    have ht0 := ht t (by simp)
    unfold timeOK at ht0
    have hdv := (Check_V hc).door hdn hdl
    have hdg : (h.doors.map eDoor).getD n.toNat [] = eDoor (h.door n) := getD_map eDoor h.doors _ [] ⟨[], []⟩ (by omega)
    have hE : lastOpenH h n t = (lastR (h.door n) t, 0) := by unfold lastOpenH; rw [if_neg (by simp [he]), lastR_is hdv ht0.1 ht0.2]
    rw [hE]
    refine OKat.of_body (rs := [6, 7]) Tryd.func68 rfl (by decide +kernel) rfl (by simp [Tryd.ntmps68]) ?_
    simp only [Tryd.ntmps68]
    repeat' first
      | apply AW.seq | apply AW.region | apply AW.ret | apply AW.block | apply AW.skip | apply AW.exit | apply AW.scope | apply AW.label | apply AWL.nil
      | ((first | (apply W.step cx_ok; decide) | apply AW.cond); (simp (disch := omega) only [push_cast, simprocAttr, her, hdn, hdl, hdg] <;> rfl); all_goals try ((with_reducible intro hI); try first | (cases hI; done) | (simp only [INTS, not_true_eq_false] at hI; try first | (exfalso; omega) | (have hT : True := hI; clear hT hI))))
      | ((apply W.callv cx_ok; decide); (iterate 2 (simp (disch := omega) only [push_cast, simprocAttr, her, hdn, hdl, hdg] <;> rfl)); (with_reducible first | exact doorR_ok _ _ _ hfit | exact lastR_ok _ _ hdv.ok (by omega) (by omega)); try first | rfl | (simp (disch := omega) only [push_cast, simprocAttr, her, hdn, hdl, hdg] <;> rfl))
      | ((first | apply W.ret2 | apply W.end2); (iterate 2 (try (simp (disch := omega) only [push_cast, simprocAttr, her, hdn, hdl, hdg] <;> rfl))))
    all_goals (show _ = _; rfl)
  · have her : ¬ doorRE h n t = 0 := by rw [doorRE_one]; exact he
    have hE : lastOpenH h n t = (0, doorRE h n t) := by rw [doorRE_one]; exact if_pos he
    rw [hE]
    refine OKat.of_body (rs := [6, 7]) Tryd.func68 rfl (by decide +kernel) rfl (by simp [Tryd.ntmps68]) ?_
    simp only [Tryd.ntmps68]
    repeat' first
      | apply AW.seq | apply AW.region | apply AW.ret | apply AW.block | apply AW.skip | apply AW.exit | apply AW.scope | apply AW.label | apply AWL.nil
      | ((first | (apply W.step cx_ok; decide) | apply AW.cond); (simp (disch := omega) only [push_cast, simprocAttr, her] <;> rfl); all_goals try ((with_reducible intro hI); try first | (cases hI; done) | (simp only [INTS, not_true_eq_false] at hI; try first | (exfalso; omega) | (have hT : True := hI; clear hT hI))))
      | ((apply W.callv cx_ok; decide); (iterate 2 (simp (disch := omega) only [push_cast, simprocAttr, her] <;> rfl)); (with_reducible first | exact doorR_ok _ _ _ hfit); try first | rfl | (simp (disch := omega) only [push_cast, simprocAttr, her] <;> rfl))
      | ((first | apply W.ret2 | apply W.end2); (iterate 2 (try (simp (disch := omega) only [push_cast, simprocAttr, her] <;> rfl))))
    all_goals (show _ = _; rfl)
theorem edge_ok (d : Door) (t : Int) (hd : d.OK) (h0 : 0 ≤ t) (h1 : t ≤ 1073741824) : OKv cx 107 [.agg (eDoor d), ai t] (ai (edgeR d t)) := by
  have hnh := hd.nh
  have hns := hd.ns
  refine OKat.of_body (rs := [4]) Tryd.func107 rfl (by decide +kernel) rfl (by simp [Tryd.ntmps107]) ?_
  simp only [Tryd.ntmps107]
  repeat' first
    | apply AW.seq | apply AW.region | apply AW.ret | apply AW.block | apply AW.skip | apply AW.exit | apply AW.scope | apply AW.label | apply AWL.nil
    | ((first | (apply W.step cx_ok; decide) | apply AW.cond); (simp (disch := omega) only [push_cast, simprocAttr] <;> rfl); all_goals try ((with_reducible intro hI); try first | (cases hI; done) | (simp only [INTS, not_true_eq_false] at hI; try first | (exfalso; omega) | (have hT : True := hI; clear hT hI))))
    | ((first | apply W.ret1 | apply W.end1); (iterate 2 (try (simp (disch := omega) only [push_cast, simprocAttr] <;> rfl))))
  refine AW.loop (fun n s => ∃ (k : Nat) (b : Int) (rest : List Span), n = rest.length ∧ (d.hours.drop k = rest) ∧ (rest.foldl (fun b x => edge1 t (t / 86400 * 86400 + x.lo) (t / 86400 * 86400 + x.hi) b) b = d.hours.foldl (fun b x => edge1 t (t / 86400 * 86400 + x.lo) (t / 86400 * 86400 + x.hi) b) (t / 86400 * 86400 + 86399)) ∧ (-1 ≤ b ∧ b ≤ 2000000000) ∧ 1 ≤ s.nx ∧ s.tm 1 = ai t ∧ s.tm 2 = .ptr 0 0 0 1 ∧ s.tm 5 = ai (t / 86400 * 86400) ∧ s.tm 6 = ai b ∧ s.tm 7 = ai k ∧ Pg.rowAt s.H (0) = some ({ k := 2, es := [eDoor d], ty := 98 })) (d.hours.length) ⟨0, _, d.hours, rfl, rfl, rfl, (by omega), ?_, ?_, ?_, ?_, ?_, ?_, ?_⟩ ?_
  iterate 7 (first | (simp (disch := omega) only [push_cast, simprocAttr] <;> first | rfl | omega) | omega)
  rintro n s ⟨k, b, rest, hn, hp0, hp1, hp2, hnl, hS⟩
  have hZ : (0 : Nat) ≠ s.nx ∧ s.nx ≠ (0 : Nat) := by omega
  rcases rest with _ | ⟨x, rest⟩
  · have hk := drop_nil hp0
    repeat' first
      | apply AW.seq | apply AW.region | apply AW.ret | apply AW.block | apply AW.skip | apply AW.exit | apply AW.scope | apply AW.label | apply AWL.nil
      | ((first | (apply W.step cx_ok; decide) | apply AW.cond); (simp (disch := omega) only [push_cast, simprocAttr, hS, hZ, hk] <;> rfl); all_goals try ((with_reducible intro hI); try first | (cases hI; done) | (simp only [INTS, not_true_eq_false] at hI; try first | (exfalso; omega) | (have hT : True := hI; clear hT hI))))
      | ((first | apply W.ret1 | apply W.end1); (iterate 2 (try (simp (disch := omega) only [push_cast, simprocAttr, hS, hZ, hk] <;> rfl))))
    refine AW.loop (fun n s => ∃ (k : Nat) (b : Int) (rest : List Span), n = rest.length ∧ (d.shut.drop k = rest) ∧ (rest.foldl (fun b x => edge1 t x.lo x.hi b) b = edgeR d t) ∧ (-1 ≤ b ∧ b ≤ 2000000000) ∧ 1 ≤ s.nx ∧ s.tm 1 = ai t ∧ s.tm 2 = .ptr 0 0 0 1 ∧ s.tm 6 = ai b ∧ s.tm 8 = ai k ∧ Pg.rowAt s.H (0) = some ({ k := 2, es := [eDoor d], ty := 98 })) (d.shut.length) ⟨0, b, d.shut, rfl, rfl, (by rw [List.foldl_nil] at hp1; rw [hp1]; rfl), hp2, ?_, ?_, ?_, ?_, ?_, ?_⟩ ?_
    iterate 6 (first | (simp (disch := omega) only [push_cast, simprocAttr, hS, hZ, hk] <;> first | rfl | omega) | omega)
    rintro n2 s2 ⟨k2, b2, rest2, hn2, hp02, hp12, hp22, hnl2, hS2⟩
    have hZ2 : (0 : Nat) ≠ s2.nx ∧ s2.nx ≠ (0 : Nat) := by omega
    rcases rest2 with _ | ⟨y, rest2⟩
    · have hk2 := drop_nil hp02
      repeat' first
        | apply AW.seq | apply AW.region | apply AW.ret | apply AW.block | apply AW.skip | apply AW.exit | apply AW.scope | apply AW.label | apply AWL.nil
        | ((first | (apply W.step cx_ok; decide) | apply AW.cond); (simp (disch := omega) only [push_cast, simprocAttr, hS2, hZ2, hk2] <;> rfl); all_goals try ((with_reducible intro hI); try first | (cases hI; done) | (simp only [INTS, not_true_eq_false] at hI; try first | (exfalso; omega) | (have hT : True := hI; clear hT hI))))
        | ((first | apply W.ret1 | apply W.end1); (iterate 2 (try (simp (disch := omega) only [push_cast, simprocAttr, hS2, hZ2, hk2] <;> rfl))))
      all_goals (show _ = _; rw [← hp12]; rfl)
    · obtain ⟨hk2, hg2, hd'2, hl'2, hm2, hx2⟩ := drop_cons hp02 eSpan []
      have hb := hd.shut y hm2
      repeat' first
        | apply AW.seq | apply AW.region | apply AW.ret | apply AW.block | apply AW.skip | apply AW.exit | apply AW.scope | apply AW.label | apply AWL.nil
        | ((first | (apply W.step cx_ok; decide) | apply AW.cond); (simp (disch := omega) only [push_cast, simprocAttr, hS2, hZ2, hk2, hg2] <;> rfl); all_goals try ((with_reducible intro hI); try first | (cases hI; done) | (simp only [INTS, not_true_eq_false] at hI; try first | (exfalso; omega) | (have hT : True := hI; clear hT hI))))
        | ((first | apply W.ret1 | apply W.end1); (iterate 2 (try (simp (disch := omega) only [push_cast, simprocAttr, hS2, hZ2, hk2, hg2] <;> rfl))))
      all_goals first
        | (have hq : edge1 t (y.lo) (y.hi) b2 = min (min b2 (y.lo - 1)) (y.hi) := by unfold edge1; rw [if_pos (by omega), if_pos (by omega)]
           rw [List.foldl_cons, hq] at hp12
           (refine ⟨rest2.length, ?_, k2 + 1, min (min b2 (y.lo - 1)) (y.hi), rest2, rfl, hd'2, hp12, (by omega), ?_, ?_, ?_, ?_, ?_, ?_⟩; ((simp only [List.length_cons] at *; omega)); all_goals first | (simp (disch := omega) only [push_cast, simprocAttr, hS2, hZ2, hg2, hk2] <;> first | rfl | omega) | omega))
        | (have hq : edge1 t (y.lo) (y.hi) b2 = min b2 (y.hi) := by unfold edge1; rw [if_pos (by omega), if_neg (by omega)]
           rw [List.foldl_cons, hq] at hp12
           (refine ⟨rest2.length, ?_, k2 + 1, min b2 (y.hi), rest2, rfl, hd'2, hp12, (by omega), ?_, ?_, ?_, ?_, ?_, ?_⟩; ((simp only [List.length_cons] at *; omega)); all_goals first | (simp (disch := omega) only [push_cast, simprocAttr, hS2, hZ2, hg2, hk2] <;> first | rfl | omega) | omega))
        | (have hq : edge1 t (y.lo) (y.hi) b2 = min b2 (y.lo - 1) := by unfold edge1; rw [if_neg (by omega), if_pos (by omega)]
           rw [List.foldl_cons, hq] at hp12
           (refine ⟨rest2.length, ?_, k2 + 1, min b2 (y.lo - 1), rest2, rfl, hd'2, hp12, (by omega), ?_, ?_, ?_, ?_, ?_, ?_⟩; ((simp only [List.length_cons] at *; omega)); all_goals first | (simp (disch := omega) only [push_cast, simprocAttr, hS2, hZ2, hg2, hk2] <;> first | rfl | omega) | omega))
        | (have hq : edge1 t (y.lo) (y.hi) b2 = b2 := by unfold edge1; rw [if_neg (by omega), if_neg (by omega)]
           rw [List.foldl_cons, hq] at hp12
           (refine ⟨rest2.length, ?_, k2 + 1, b2, rest2, rfl, hd'2, hp12, (by omega), ?_, ?_, ?_, ?_, ?_, ?_⟩; ((simp only [List.length_cons] at *; omega)); all_goals first | (simp (disch := omega) only [push_cast, simprocAttr, hS2, hZ2, hg2, hk2] <;> first | rfl | omega) | omega))
  · obtain ⟨hk, hg, hd', hl', hm, hx⟩ := drop_cons hp0 eSpan []
    have hb := hd.hours x hm
    repeat' first
      | apply AW.seq | apply AW.region | apply AW.ret | apply AW.block | apply AW.skip | apply AW.exit | apply AW.scope | apply AW.label | apply AWL.nil
      | ((first | (apply W.step cx_ok; decide) | apply AW.cond); (simp (disch := omega) only [push_cast, simprocAttr, hS, hZ, hk, hg] <;> rfl); all_goals try ((with_reducible intro hI); try first | (cases hI; done) | (simp only [INTS, not_true_eq_false] at hI; try first | (exfalso; omega) | (have hT : True := hI; clear hT hI))))
      | ((first | apply W.ret1 | apply W.end1); (iterate 2 (try (simp (disch := omega) only [push_cast, simprocAttr, hS, hZ, hk, hg] <;> rfl))))
    all_goals first
      | (have hq : edge1 t (t / 86400 * 86400 + x.lo) (t / 86400 * 86400 + x.hi) b = min (min b (t / 86400 * 86400 + x.lo - 1)) (t / 86400 * 86400 + x.hi) := by unfold edge1; rw [if_pos (by omega), if_pos (by omega)]
         rw [List.foldl_cons, hq] at hp1
         (refine ⟨rest.length, ?_, k + 1, min (min b (t / 86400 * 86400 + x.lo - 1)) (t / 86400 * 86400 + x.hi), rest, rfl, hd', hp1, (by omega), ?_, ?_, ?_, ?_, ?_, ?_, ?_⟩; ((simp only [List.length_cons] at *; omega)); all_goals first | (simp (disch := omega) only [push_cast, simprocAttr, hS, hZ, hg, hk] <;> first | rfl | omega) | omega))
      | (have hq : edge1 t (t / 86400 * 86400 + x.lo) (t / 86400 * 86400 + x.hi) b = min b (t / 86400 * 86400 + x.hi) := by unfold edge1; rw [if_pos (by omega), if_neg (by omega)]
         rw [List.foldl_cons, hq] at hp1
         (refine ⟨rest.length, ?_, k + 1, min b (t / 86400 * 86400 + x.hi), rest, rfl, hd', hp1, (by omega), ?_, ?_, ?_, ?_, ?_, ?_, ?_⟩; ((simp only [List.length_cons] at *; omega)); all_goals first | (simp (disch := omega) only [push_cast, simprocAttr, hS, hZ, hg, hk] <;> first | rfl | omega) | omega))
      | (have hq : edge1 t (t / 86400 * 86400 + x.lo) (t / 86400 * 86400 + x.hi) b = min b (t / 86400 * 86400 + x.lo - 1) := by unfold edge1; rw [if_neg (by omega), if_pos (by omega)]
         rw [List.foldl_cons, hq] at hp1
         (refine ⟨rest.length, ?_, k + 1, min b (t / 86400 * 86400 + x.lo - 1), rest, rfl, hd', hp1, (by omega), ?_, ?_, ?_, ?_, ?_, ?_, ?_⟩; ((simp only [List.length_cons] at *; omega)); all_goals first | (simp (disch := omega) only [push_cast, simprocAttr, hS, hZ, hg, hk] <;> first | rfl | omega) | omega))
      | (have hq : edge1 t (t / 86400 * 86400 + x.lo) (t / 86400 * 86400 + x.hi) b = b := by unfold edge1; rw [if_neg (by omega), if_neg (by omega)]
         rw [List.foldl_cons, hq] at hp1
         (refine ⟨rest.length, ?_, k + 1, b, rest, rfl, hd', hp1, (by omega), ?_, ?_, ?_, ?_, ?_, ?_, ?_⟩; ((simp only [List.length_cons] at *; omega)); all_goals first | (simp (disch := omega) only [push_cast, simprocAttr, hS, hZ, hg, hk] <;> first | rfl | omega) | omega))

end Go.Proofs.Hs

namespace Go.Proofs.Hs
open Go Go.Pg Go.Proofs

theorem getD_eSpan (l : List Span) (k : Nat) (h : k < l.length) : (l.map eSpan).getD k [] = eSpan (l.getD k ⟨0, 0⟩) := getD_map eSpan l k [] ⟨0, 0⟩ h
theorem get_eSpan (l : List Span) (k : Nat) (h : k < l.length) : (l.map eSpan)[k]? = some (eSpan (l.getD k ⟨0, 0⟩)) := by
  rw [List.getElem?_map, (by rw [List.getD_eq_getElem?_getD, List.getElem?_eq_getElem h]; rfl : l[k]? = some (l.getD k ⟨0, 0⟩))]; rfl
def openingsH (h : House) (n : Int) (s : Span) : List Span × Int :=
  if doorE h n [] ≠ 0 then ([], doorE h n []) else if s.hi < s.lo ∨ timeB s.lo = false ∨ timeB s.hi = false then ([], 1) else
  if 604800 ≤ s.hi - s.lo then ([], 2) else (openL (h.door n) s, 0)
theorem OpeningsR_ok (h : House) (n0 : Int) (sp : Span) (hfit : h.Fit) : OKv cx 70 [.agg (eHouse h), ai n0, .agg (eSpan sp)] (.tup [lSpan (openingsH h n0 sp).1, ai (openingsH h n0 sp).2]) := by
  by_cases he0 : doorE h n0 [] = 0
  · obtain ⟨hc, ⟨hdn, hdl⟩, _⟩ := doorE_zero he0
    have he : doorRE h n0 0 = 0 := by rw [← doorE_nil]; exact he0
    have hv := Check_V hc
    have hdv := hv.door hdn hdl
    have hdg : (h.doors.map eDoor).getD n0.toNat [] = eDoor (h.door n0) := getD_map eDoor h.doors _ [] ⟨[], []⟩ (by omega)
    have hE0 : openingsH h n0 sp = if sp.hi < sp.lo ∨ timeB sp.lo = false ∨ timeB sp.hi = false then ([], 1) else if 604800 ≤ sp.hi - sp.lo then ([], 2) else (openL (h.door n0) sp, 0) := if_neg (by simp [he0])
    by_cases hsp : sp.hi < sp.lo ∨ timeB sp.lo = false ∨ timeB sp.hi = false
    · rw [if_pos hsp] at hE0
      rw [hE0]
      refine OKat.of_body (rs := [6, 7]) Tryd.func70 rfl (by decide +kernel) rfl (by simp [Tryd.ntmps70]) ?_
      simp only [Tryd.ntmps70]
      repeat' first
        | apply AW.seq | apply AW.region | apply AW.ret | apply AW.block | apply AW.skip | apply AW.exit | apply AW.scope | apply AW.label | apply AWL.nil | apply D.nil
        | refine W.draw cx_mixed (by decide +kernel) ?_
        | ((first | (apply W.step cx_ok; decide) | (apply D.step cx_ok; decide; decide) | apply W.store cx_ok | (apply W.gS; rfl; decide) | (apply D.gS; rfl; decide; decide) | apply AW.cond); (simp (disch := omega) only [push_cast, simprocAttr, he] <;> rfl); all_goals try ((with_reducible intro hI); try first | (cases hI; done) | (simp only [INTS, not_true_eq_false] at hI; try first | (exfalso; omega) | (have hT : True := hI; clear hT hI))))
        | ((first | (apply W.callv cx_ok; decide) | (apply D.callv cx_ok; decide; decide)); (iterate 2 (simp (disch := omega) only [push_cast, simprocAttr, he] <;> rfl)); (with_reducible first | exact doorR_ok _ _ _ hfit | exact Time_ok _); try first | rfl | (simp (disch := omega) only [push_cast, simprocAttr, he] <;> rfl))
        | ((first | apply W.ret2 | apply W.end2); (iterate 2 (try (simp (disch := omega) only [push_cast, simprocAttr, he] <;> rfl))))
      all_goals first
        | (show _ = _; rfl)
        | (exfalso; unfold timeB at hsp; simp only [Bool.and_eq_false_iff, decide_eq_false_iff_not] at hsp; omega)
    · rw [if_neg hsp] at hE0
      have hspb : 0 ≤ sp.lo ∧ sp.lo ≤ sp.hi ∧ sp.hi ≤ 1073741823 := by unfold timeB at hsp; simp only [not_or, Bool.not_eq_false, Bool.and_eq_true, decide_eq_true_eq] at hsp; omega
      have hs1 := hspb.1
      have hs2 := hspb.2.1
      have hs3 := hspb.2.2
      by_cases hlm : 604800 ≤ sp.hi - sp.lo
      · rw [if_pos hlm] at hE0
        rw [hE0]
        refine OKat.of_body (rs := [6, 7]) Tryd.func70 rfl (by decide +kernel) rfl (by simp [Tryd.ntmps70]) ?_
        simp only [Tryd.ntmps70]
        repeat' first
          | apply AW.seq | apply AW.region | apply AW.ret | apply AW.block | apply AW.skip | apply AW.exit | apply AW.scope | apply AW.label | apply AWL.nil | apply D.nil
          | refine W.draw cx_mixed (by decide +kernel) ?_
          | ((first | (apply W.step cx_ok; decide) | (apply D.step cx_ok; decide; decide) | apply W.store cx_ok | (apply W.gS; rfl; decide) | (apply D.gS; rfl; decide; decide) | apply AW.cond); (simp (disch := omega) only [push_cast, simprocAttr, he, hdn, hdl, hdg, hs1, hs2, hs3, hlm] <;> rfl); all_goals try ((with_reducible intro hI); try first | (cases hI; done) | (simp only [INTS, not_true_eq_false] at hI; try first | (exfalso; omega) | (have hT : True := hI; clear hT hI))))
          | ((first | (apply W.callv cx_ok; decide) | (apply D.callv cx_ok; decide; decide)); (iterate 2 (simp (disch := omega) only [push_cast, simprocAttr, he, hdn, hdl, hdg, hs1, hs2, hs3, hlm] <;> rfl)); (with_reducible first | exact doorR_ok _ _ _ hfit | exact Time_ok _); try first | rfl | (simp (disch := omega) only [push_cast, simprocAttr, he, hdn, hdl, hdg, hs1, hs2, hs3, hlm] <;> rfl))
          | ((first | apply W.ret2 | apply W.end2); (iterate 2 (try (simp (disch := omega) only [push_cast, simprocAttr, he, hdn, hdl, hdg, hs1, hs2, hs3, hlm] <;> rfl))))
        all_goals first
          | (show _ = _; rfl)
          | (exfalso; omega)
      · rw [if_neg hlm, openL_eq hdv hspb] at hE0
        rw [hE0]
        refine OKat.of_body (rs := [6, 7]) Tryd.func70 rfl (by decide +kernel) rfl (by simp [Tryd.ntmps70]) ?_
        simp only [Tryd.ntmps70]
        repeat' first
          | apply AW.seq | apply AW.region | apply AW.ret | apply AW.block | apply AW.skip | apply AW.exit | apply AW.scope | apply AW.label | apply AWL.nil | apply D.nil
          | refine W.draw cx_mixed (by decide +kernel) ?_
          | ((first | (apply W.step cx_ok; decide) | (apply D.step cx_ok; decide; decide) | apply W.store cx_ok | (apply W.gS; rfl; decide) | (apply D.gS; rfl; decide; decide) | apply AW.cond); (simp (disch := omega) only [push_cast, simprocAttr, he, hdn, hdl, hdg, hs1, hs2, hs3, hlm] <;> rfl); all_goals try ((with_reducible intro hI); try first | (cases hI; done) | (simp only [INTS, not_true_eq_false] at hI; try first | (exfalso; omega) | (have hT : True := hI; clear hT hI))))
          | ((first | (apply W.callv cx_ok; decide) | (apply D.callv cx_ok; decide; decide)); (iterate 2 (simp (disch := omega) only [push_cast, simprocAttr, he, hdn, hdl, hdg, hs1, hs2, hs3, hlm] <;> rfl)); (with_reducible first | exact doorR_ok _ _ _ hfit | exact Time_ok _); try first | rfl | (simp (disch := omega) only [push_cast, simprocAttr, he, hdn, hdl, hdg, hs1, hs2, hs3, hlm] <;> rfl))
          | ((first | apply W.ret2 | apply W.end2); (iterate 2 (try (simp (disch := omega) only [push_cast, simprocAttr, he, hdn, hdl, hdg, hs1, hs2, hs3, hlm] <;> rfl))))
        all_goals try (exfalso; omega)
        refine AW.adopt 9 2 38 ?_ ?_
        · simp (disch := omega) only [push_cast, simprocAttr, he, hdn, hdl, hdg, hs1, hs2, hs3, hlm]
        refine AW.loop (fun n s => ∃ (k : Nat) (tt : Int) (out : List Span), n = k ∧ (sp.lo ≤ tt ∧ tt ≤ sp.hi + 1) ∧ (sp.hi - tt < (k : Int)) ∧ (refF (h.door n0) sp.hi k tt out = openLR (h.door n0) sp) ∧ ((out.length : Int) ≤ tt - sp.lo) ∧ 3 ≤ s.nx ∧ s.tm 1 = ai n0 ∧ s.tm 3 = .ptr 0 0 0 1 ∧ s.tm 5 = .ptr 1 0 0 1 ∧ s.tm 9 = .ref 2 0 out.length ∧ s.tm 10 = ai tt ∧ Pg.rowAt s.H (0) = some ({ k := 3, es := [eHouse h], ty := 26 }) ∧ Pg.rowAt s.H (1) = some ({ k := 2, es := [eSpan sp], ty := 38 }) ∧ Pg.rowAt s.H (2) = some ({ k := 2, es := out.map eSpan, ty := 38, lo := out.length })) ((sp.hi - sp.lo + 1).toNat) ⟨_, sp.lo, [], rfl, (by omega), (by omega), rfl, (by simp only [List.length_nil]; omega), ?_, ?_, ?_, ?_, ?_, ?_, ?_, ?_, ?_⟩ ?_
        iterate 9 (first | (simp (disch := omega) only [push_cast, simprocAttr, he, hdn, hdl, hdg, hs1, hs2, hs3, hlm] <;> first | rfl | omega) | omega)
        rintro n s ⟨k, tt, out, hn, hp0, hp1, hp2, hp3, hnl, hS⟩
        have hZ : (0 : Nat) ≠ s.nx ∧ s.nx ≠ (0 : Nat) ∧ (1 : Nat) ≠ s.nx ∧ s.nx ≠ (1 : Nat) ∧ (2 : Nat) ≠ s.nx ∧ s.nx ≠ (2 : Nat) := by omega
        by_cases hle : tt ≤ sp.hi
        · obtain ⟨k', rfl⟩ : ∃ k', k = k' + 1 := ⟨k - 1, by omega⟩
          obtain ⟨e1, _⟩ := edgeR_spec (d := h.door n0) (t := tt) (by omega)
          obtain ⟨E, hE⟩ : ∃ x, min (edgeR (h.door n0) tt) sp.hi = x := ⟨_, rfl⟩
          have hEb : tt ≤ E ∧ E ≤ sp.hi := by omega
          rw [refF, if_neg (by omega), hE] at hp2
          by_cases ho : openR (h.door n0) tt = true
          · rw [if_pos ho] at hp2
            by_cases hz : 0 < out.length
            · have z1 : (0 : Int) < (out.length : Int) := by omega
              have z2 : max ((out.length : Int) - 1) 0 = (out.length : Int) - 1 := by omega
              have z3 : (0 : Int) ≤ (out.length : Int) - 1 := by omega
              have z4 : (out.length : Int) - 1 < (out.length : Int) := by omega
              have z5 : ((out.length : Int) - 1).toNat = out.length - 1 := by omega
              have z6 : out.length - 1 < out.length := by omega
              have z7 : (out.map eSpan).getD (out.length - 1) [] = eSpan (lastS out) := getD_eSpan out (out.length - 1) z6
              have z8 : (out.map eSpan)[out.length - 1]? = some (eSpan (lastS out)) := get_eSpan out (out.length - 1) z6
              by_cases hq : (lastS out).hi = tt - 1
              · have hqT : ((lastS out).hi = tt - 1) = True := eq_true hq
                rw [putR, if_pos ⟨hz, hq⟩] at hp2
                repeat' first
                  | apply AW.seq | apply AW.region | apply AW.ret | apply AW.block | apply AW.skip | apply AW.exit | apply AW.scope | apply AW.label | apply AWL.nil | apply D.nil
                  | refine W.draw cx_mixed (by decide +kernel) ?_
                  | ((first | (apply W.step cx_ok; decide) | (apply D.step cx_ok; decide; decide) | apply W.store cx_ok | (apply W.gS; rfl; decide) | (apply D.gS; rfl; decide; decide) | apply AW.cond); (simp (disch := omega) only [push_cast, simprocAttr, hS, hZ, hE, ho, hz, z1, z2, z3, z4, z5, z6, z7, z8, hle, hdn, hdl, hdg, hqT] <;> rfl); all_goals try ((with_reducible intro hI); try first | (cases hI; done) | (simp only [INTS, not_true_eq_false] at hI; try first | (exfalso; omega) | (have hT : True := hI; clear hT hI))))
                  | ((first | (apply W.callv cx_ok; decide) | (apply D.callv cx_ok; decide; decide)); (iterate 2 (simp (disch := omega) only [push_cast, simprocAttr, hS, hZ, hE, ho, hz, z1, z2, z3, z4, z5, z6, z7, z8, hle, hdn, hdl, hdg, hqT] <;> rfl)); (with_reducible first | exact edge_ok _ _ hdv.ok (by omega) (by omega) | exact openR_ok _ _ (by have := hdv.hours.1; omega) (by have := hdv.shut.1; omega)); try first | rfl | (simp (disch := omega) only [push_cast, simprocAttr, hS, hZ, hE, ho, hz, z1, z2, z3, z4, z5, z6, z7, z8, hle, hdn, hdl, hdg, hqT] <;> rfl))
                  | ((first | apply W.ret2 | apply W.end2); (iterate 2 (try (simp (disch := omega) only [push_cast, simprocAttr, hS, hZ, hE, ho, hz, z1, z2, z3, z4, z5, z6, z7, z8, hle, hdn, hdl, hdg, hqT] <;> rfl))))
                all_goals
                  (refine ⟨k', ?_, k', E + 1, out.set (out.length - 1) ⟨(lastS out).lo, E⟩, rfl, (by omega), (by omega), hp2, (by rw [List.length_set]; omega), ?_, ?_, ?_, ?_, ?_, ?_, ?_, ?_, ?_⟩; (omega); all_goals first | (simp (disch := omega) only [push_cast, simprocAttr, hS, hZ, hE, ho, hz, z1, z2, z3, z4, z5, z6, z7, z8, hle, hdn, hdl, hdg, hqT] <;> first | rfl | omega) | omega)
              · have hqF : ((lastS out).hi = tt - 1) = False := eq_false hq
                rw [putR, if_neg (fun hh => hq hh.2)] at hp2
                repeat' first
                  | apply AW.seq | apply AW.region | apply AW.ret | apply AW.block | apply AW.skip | apply AW.exit | apply AW.scope | apply AW.label | apply AWL.nil | apply D.nil
                  | refine W.draw cx_mixed (by decide +kernel) ?_
                  | ((first | (apply W.step cx_ok; decide) | (apply D.step cx_ok; decide; decide) | apply W.store cx_ok | (apply W.gS; rfl; decide) | (apply D.gS; rfl; decide; decide) | apply AW.cond); (simp (disch := omega) only [push_cast, simprocAttr, hS, hZ, hE, ho, hz, z1, z2, z3, z4, z5, z6, z7, z8, hle, hdn, hdl, hdg, hqF, List.length_cons, List.length_nil, take_map_all] <;> rfl); all_goals try ((with_reducible intro hI); try first | (cases hI; done) | (simp only [INTS, not_true_eq_false] at hI; try first | (exfalso; omega) | (have hT : True := hI; clear hT hI))))
                  | (apply W.append cx_ok; decide; rfl; rfl; rfl; decide; (iterate 3 (simp (disch := omega) only [push_cast, simprocAttr, hS, hZ, hE, ho, hz, z1, z2, z3, z4, z5, z6, z7, z8, hle, hdn, hdl, hdg, hqF, List.length_cons, List.length_nil, take_map_all] <;> rfl)); simp; (rfl); ((try dsimp only); (try simp only [List.length_map, List.length_append, List.length_cons, List.length_nil]); omega); ((try dsimp only); (try simp only [List.length_map, List.length_append, List.length_cons, List.length_nil]); omega))
                  | ((first | (apply W.callv cx_ok; decide) | (apply D.callv cx_ok; decide; decide)); (iterate 2 (simp (disch := omega) only [push_cast, simprocAttr, hS, hZ, hE, ho, hz, z1, z2, z3, z4, z5, z6, z7, z8, hle, hdn, hdl, hdg, hqF, List.length_cons, List.length_nil, take_map_all] <;> rfl)); (with_reducible first | exact edge_ok _ _ hdv.ok (by omega) (by omega) | exact openR_ok _ _ (by have := hdv.hours.1; omega) (by have := hdv.shut.1; omega)); try first | rfl | (simp (disch := omega) only [push_cast, simprocAttr, hS, hZ, hE, ho, hz, z1, z2, z3, z4, z5, z6, z7, z8, hle, hdn, hdl, hdg, hqF, List.length_cons, List.length_nil, take_map_all] <;> rfl))
                  | ((first | apply W.ret2 | apply W.end2); (iterate 2 (try (simp (disch := omega) only [push_cast, simprocAttr, hS, hZ, hE, ho, hz, z1, z2, z3, z4, z5, z6, z7, z8, hle, hdn, hdl, hdg, hqF, List.length_cons, List.length_nil, take_map_all] <;> rfl))))
                all_goals
                  (refine ⟨k', ?_, k', E + 1, out ++ [⟨tt, E⟩], rfl, (by omega), (by omega), hp2, (by simp; omega), ?_, ?_, ?_, ?_, ?_, ?_, ?_, ?_, ?_⟩; (omega); all_goals first | (simp (disch := omega) only [push_cast, simprocAttr, hS, hZ, hE, ho, hz, z1, z2, z3, z4, z5, z6, z7, z8, hle, hdn, hdl, hdg, hqF, List.length_cons, List.length_nil, take_map_all] <;> first | rfl | omega) | omega)
            · have z1 : ¬ (0 : Int) < (out.length : Int) := by omega
              have hnil : out = [] := List.eq_nil_of_length_eq_zero (by omega)
              rw [putR, if_neg (fun hh => hz hh.1)] at hp2
              repeat' first
                | apply AW.seq | apply AW.region | apply AW.ret | apply AW.block | apply AW.skip | apply AW.exit | apply AW.scope | apply AW.label | apply AWL.nil | apply D.nil
                | refine W.draw cx_mixed (by decide +kernel) ?_
                | ((first | (apply W.step cx_ok; decide) | (apply D.step cx_ok; decide; decide) | apply W.store cx_ok | (apply W.gS; rfl; decide) | (apply D.gS; rfl; decide; decide) | apply AW.cond); (simp (disch := omega) only [push_cast, simprocAttr, hS, hZ, hE, ho, z1, hle, hdn, hdl, hdg, List.length_cons, List.length_nil, take_map_all] <;> rfl); all_goals try ((with_reducible intro hI); try first | (cases hI; done) | (simp only [INTS, not_true_eq_false] at hI; try first | (exfalso; omega) | (have hT : True := hI; clear hT hI))))
                | (apply W.append cx_ok; decide; rfl; rfl; rfl; decide; (iterate 3 (simp (disch := omega) only [push_cast, simprocAttr, hS, hZ, hE, ho, z1, hle, hdn, hdl, hdg, List.length_cons, List.length_nil, take_map_all] <;> rfl)); simp; (rfl); ((try dsimp only); (try simp only [List.length_map, List.length_append, List.length_cons, List.length_nil]); omega); ((try dsimp only); (try simp only [List.length_map, List.length_append, List.length_cons, List.length_nil]); omega))
                | ((first | (apply W.callv cx_ok; decide) | (apply D.callv cx_ok; decide; decide)); (iterate 2 (simp (disch := omega) only [push_cast, simprocAttr, hS, hZ, hE, ho, z1, hle, hdn, hdl, hdg, List.length_cons, List.length_nil, take_map_all] <;> rfl)); (with_reducible first | exact edge_ok _ _ hdv.ok (by omega) (by omega) | exact openR_ok _ _ (by have := hdv.hours.1; omega) (by have := hdv.shut.1; omega)); try first | rfl | (simp (disch := omega) only [push_cast, simprocAttr, hS, hZ, hE, ho, z1, hle, hdn, hdl, hdg, List.length_cons, List.length_nil, take_map_all] <;> rfl))
                | ((first | apply W.ret2 | apply W.end2); (iterate 2 (try (simp (disch := omega) only [push_cast, simprocAttr, hS, hZ, hE, ho, z1, hle, hdn, hdl, hdg, List.length_cons, List.length_nil, take_map_all] <;> rfl))))
              all_goals
                (refine ⟨k', ?_, k', E + 1, out ++ [⟨tt, E⟩], rfl, (by omega), (by omega), hp2, (by simp; omega), ?_, ?_, ?_, ?_, ?_, ?_, ?_, ?_, ?_⟩; (omega); all_goals first | (simp (disch := omega) only [push_cast, simprocAttr, hS, hZ, hE, ho, z1, hle, hdn, hdl, hdg, List.length_cons, List.length_nil, take_map_all] <;> first | rfl | omega) | omega)
          · have hoF : openR (h.door n0) tt = false := by simpa using ho
            rw [if_neg ho] at hp2
            repeat' first
              | apply AW.seq | apply AW.region | apply AW.ret | apply AW.block | apply AW.skip | apply AW.exit | apply AW.scope | apply AW.label | apply AWL.nil | apply D.nil
              | refine W.draw cx_mixed (by decide +kernel) ?_
              | ((first | (apply W.step cx_ok; decide) | (apply D.step cx_ok; decide; decide) | apply W.store cx_ok | (apply W.gS; rfl; decide) | (apply D.gS; rfl; decide; decide) | apply AW.cond); (simp (disch := omega) only [push_cast, simprocAttr, hS, hZ, hE, hoF, hle, hdn, hdl, hdg] <;> rfl); all_goals try ((with_reducible intro hI); try first | (cases hI; done) | (simp only [INTS, not_true_eq_false] at hI; try first | (exfalso; omega) | (have hT : True := hI; clear hT hI))))
              | ((first | (apply W.callv cx_ok; decide) | (apply D.callv cx_ok; decide; decide)); (iterate 2 (simp (disch := omega) only [push_cast, simprocAttr, hS, hZ, hE, hoF, hle, hdn, hdl, hdg] <;> rfl)); (with_reducible first | exact edge_ok _ _ hdv.ok (by omega) (by omega) | exact openR_ok _ _ (by have := hdv.hours.1; omega) (by have := hdv.shut.1; omega)); try first | rfl | (simp (disch := omega) only [push_cast, simprocAttr, hS, hZ, hE, hoF, hle, hdn, hdl, hdg] <;> rfl))
              | ((first | apply W.ret2 | apply W.end2); (iterate 2 (try (simp (disch := omega) only [push_cast, simprocAttr, hS, hZ, hE, hoF, hle, hdn, hdl, hdg] <;> rfl))))
            all_goals
              (refine ⟨k', ?_, k', E + 1, out, rfl, (by omega), (by omega), hp2, (by omega), ?_, ?_, ?_, ?_, ?_, ?_, ?_, ?_, ?_⟩; (omega); all_goals first | (simp (disch := omega) only [push_cast, simprocAttr, hS, hZ, hE, hoF, hle, hdn, hdl, hdg] <;> first | rfl | omega) | omega)
        · have hfin : out = openLR (h.door n0) sp := by
            rw [← hp2]
            cases k with
            | zero => rfl
            | succ k => rw [refF, if_pos (by omega)]
          repeat' first
            | apply AW.seq | apply AW.region | apply AW.ret | apply AW.block | apply AW.skip | apply AW.exit | apply AW.scope | apply AW.label | apply AWL.nil | apply D.nil
            | refine W.draw cx_mixed (by decide +kernel) ?_
            | ((first | (apply W.step cx_ok; decide) | (apply D.step cx_ok; decide; decide) | apply W.store cx_ok | (apply W.gS; rfl; decide) | (apply D.gS; rfl; decide; decide) | apply AW.cond); (simp (disch := omega) only [push_cast, simprocAttr, hS, hZ, hle, take_map_all] <;> rfl); all_goals try ((with_reducible intro hI); try first | (cases hI; done) | (simp only [INTS, not_true_eq_false] at hI; try first | (exfalso; omega) | (have hT : True := hI; clear hT hI))))
            | ((first | apply W.ret2 | apply W.end2); (iterate 2 (try (simp (disch := omega) only [push_cast, simprocAttr, hS, hZ, hle, take_map_all] <;> rfl))))
          all_goals (show _ = _; rw [hfin])
  · have he : ¬ doorRE h n0 0 = 0 := by rw [← doorE_nil]; exact he0
    have hE0 : openingsH h n0 sp = ([], doorRE h n0 0) := by rw [← doorE_nil]; exact if_pos he0
    rw [hE0]
    refine OKat.of_body (rs := [6, 7]) Tryd.func70 rfl (by decide +kernel) rfl (by simp [Tryd.ntmps70]) ?_
    simp only [Tryd.ntmps70]
    repeat' first
      | apply AW.seq | apply AW.region | apply AW.ret | apply AW.block | apply AW.skip | apply AW.exit | apply AW.scope | apply AW.label | apply AWL.nil | apply D.nil
      | refine W.draw cx_mixed (by decide +kernel) ?_
      | ((first | (apply W.step cx_ok; decide) | (apply D.step cx_ok; decide; decide) | apply W.store cx_ok | (apply W.gS; rfl; decide) | (apply D.gS; rfl; decide; decide) | apply AW.cond); (simp (disch := omega) only [push_cast, simprocAttr, he] <;> rfl); all_goals try ((with_reducible intro hI); try first | (cases hI; done) | (simp only [INTS, not_true_eq_false] at hI; try first | (exfalso; omega) | (have hT : True := hI; clear hT hI))))
      | ((first | (apply W.callv cx_ok; decide) | (apply D.callv cx_ok; decide; decide)); (iterate 2 (simp (disch := omega) only [push_cast, simprocAttr, he] <;> rfl)); (with_reducible first | exact doorR_ok _ _ _ hfit); try first | rfl | (simp (disch := omega) only [push_cast, simprocAttr, he] <;> rfl))
      | ((first | apply W.ret2 | apply W.end2); (iterate 2 (try (simp (disch := omega) only [push_cast, simprocAttr, he] <;> rfl))))
    all_goals (show _ = _; rfl)

end Go.Proofs.Hs
