/-
  Contracts of functions, proved by going through their code. No conditions.
-/
import Derived.Test.YtdlflcambboojaaSaa
import Derived.Test.YtdlflcambboojaaSau
set_option linter.unusedVariables false
set_option linter.unusedSimpArgs false
namespace Go.Proofs.Ks
open Go Go.Proofs
def Sat (f : Nat → Int) (L : List Lk) : Prop := ∀ l ∈ L, f l.b ≤ f l.a + l.m
theorem sat_append {f : Nat → Int} {L M : List Lk} : Sat f (L ++ M) ↔ Sat f L ∧ Sat f M := by
  unfold Sat
  constructor
  · intro h; exact ⟨fun l hl => h l (List.mem_append_left _ hl), fun l hl => h l (List.mem_append_right _ hl)⟩
  · rintro ⟨h1, h2⟩ l hl
    rcases List.mem_append.1 hl with hl | hl
    · exact h1 l hl
    · exact h2 l hl
theorem sat_nil {f : Nat → Int} : Sat f [] := fun l hl => by cases hl
theorem sat_cons {f : Nat → Int} {l : Lk} {L : List Lk} : Sat f (l :: L) ↔ f l.b ≤ f l.a + l.m ∧ Sat f L := by
  unfold Sat; simp
theorem sat_both {f : Nat → Int} {k : Nat} {x : Span} : Sat f (bothL k x) ↔ x.lo ≤ f k - f 0 ∧ f k - f 0 ≤ x.hi := by
  unfold bothL
  rw [sat_cons, sat_cons]
  constructor
  · rintro ⟨h1, h2, _⟩; dsimp only at h1 h2; omega
  · rintro ⟨h1, h2⟩; refine ⟨?_, ?_, sat_nil⟩ <;> dsimp only <;> omega
theorem sat_needle {f : Nat → Int} {nd : List Node} {k : Nat} {x : Span} : Sat f (needleL nd k x) ↔ f (atI 4 x.lo 0 nd).toNat ≤ f k ∧ f k ≤ f (atI 4 (x.hi + 1) 0 nd).toNat := by
  unfold needleL
  rw [sat_cons, sat_cons]
  constructor
  · rintro ⟨h1, h2, _⟩; dsimp only at h1 h2; omega
  · rintro ⟨h1, h2⟩; refine ⟨?_, ?_, sat_nil⟩ <;> dsimp only <;> omega
theorem sat_sg {f : Nat → Int} {r : Rec} : ∀ {l : List Sight}, Sat f (sgL r l) ↔ ∀ x ∈ l, x.seen.lo ≤ f (3 + strikeI x.strike 0 r.strikes).toNat - f 0 ∧ f (3 + strikeI x.strike 0 r.strikes).toNat - f 0 ≤ x.seen.hi
  | [] => by simp [sgL, sat_nil]
  | y :: l => by
    rw [sgL, sat_append, sat_both, sat_sg]
    simp
theorem sat_rw {f : Nat → Int} {S : Nat} : ∀ {c i : Nat}, Sat f (rwL S c i) ↔ ∀ j, i ≤ j → j < i + c → f (if 0 < j then 2 + j else 1) ≤ f (if j < S then 3 + j else 2)
  | 0, i => by simp only [rwL]; exact ⟨fun _ j h1 h2 => by omega, fun _ => sat_nil⟩
  | c + 1, i => by
    rw [rwL, sat_cons, sat_rw]
    unfold rowK; dsimp only
    constructor
    · rintro ⟨h1, h2⟩ j hj1 hj2
      by_cases e : j = i
      · subst e; omega
      · exact h2 j (by omega) (by omega)
    · intro h
      refine ⟨?_, fun j hj1 hj2 => h j (by omega) (by omega)⟩
      have := h i (Nat.le_refl _) (by omega)
      omega
theorem sat_nd {f : Nat → Int} {nd : List Node} : ∀ {l : List Strike} {i : Nat}, Sat f (ndL nd i l) ↔ ∀ j x, l[j]? = some x → f (atI 4 x.pos.lo 0 nd).toNat ≤ f (3 + (i + j)) ∧ f (3 + (i + j)) ≤ f (atI 4 (x.pos.hi + 1) 0 nd).toNat
  | [], i => by simp [ndL, sat_nil]
  | y :: l, i => by
    rw [ndL, sat_append, sat_needle, sat_nd]
    constructor
    · rintro ⟨h1, h2⟩ j x hx
      cases j with
      | zero => simp only [List.getElem?_cons_zero, Option.some.injEq] at hx; subst hx; exact h1
      | succ j =>
        simp only [List.getElem?_cons_succ] at hx
        have := h2 j x hx
        rwa [show i + 1 + j = i + (j + 1) by omega] at this
    · intro h
      refine ⟨h 0 y rfl, fun j x hx => ?_⟩
      have := h (j + 1) x (by simpa using hx)
      rwa [show i + (j + 1) = i + 1 + j by omega] at this
theorem sat_pair {f : Nat → Int} {s : Session} {i : Nat} {x : Int} : ∀ {l : List Int} {k : Nat}, Sat f (pairL s i x k l) ↔ ∀ j y, l[j]? = some y → (leastR s x y).1 ≤ f (k + j) - f i ∧ f (k + j) - f i ≤ (leastR s x y).2
  | [], k => by simp [pairL, sat_nil]
  | z :: l, k => by
    rw [pairL, sat_cons, sat_cons, sat_pair]
    dsimp only
    constructor
    · rintro ⟨h1, h2, h3⟩ j y hy
      cases j with
      | zero => simp only [List.getElem?_cons_zero, Option.some.injEq] at hy; subst hy; simp only [Nat.add_zero]; omega
      | succ j =>
        simp only [List.getElem?_cons_succ] at hy
        have := h3 j y hy
        rwa [show k + 1 + j = k + (j + 1) by omega] at this
    · intro h
      have h0 := h 0 z rfl
      simp only [Nat.add_zero] at h0
      refine ⟨by omega, by omega, fun j y hy => ?_⟩
      have := h (j + 1) y (by simpa using hy)
      rwa [show k + (j + 1) = k + 1 + j by omega] at this
theorem sat_pairs {f : Nat → Int} {s : Session} : ∀ {l : List Int} {i : Nat}, Sat f (pairsL s i l) ↔ ∀ j j' x y, j < j' → l[j]? = some x → l[j']? = some y → (leastR s x y).1 ≤ f (i + j') - f (i + j) ∧ f (i + j') - f (i + j) ≤ (leastR s x y).2
  | [], i => by simp [pairsL, sat_nil]
  | z :: l, i => by
    rw [pairsL, sat_append, sat_pair, sat_pairs]
    constructor
    · rintro ⟨h1, h2⟩ j j' x y hj hx hy
      cases j' with
      | zero => omega
      | succ j' =>
        simp only [List.getElem?_cons_succ] at hy
        cases j with
        | zero =>
          simp only [List.getElem?_cons_zero, Option.some.injEq] at hx; subst hx
          have := h1 j' y hy
          rwa [show i + 1 + j' = i + (j' + 1) by omega] at this
        | succ j =>
          simp only [List.getElem?_cons_succ] at hx
          have := h2 j j' x y (by omega) hx hy
          rwa [show i + 1 + j' = i + (j' + 1) by omega, show i + 1 + j = i + (j + 1) by omega] at this
    · intro h
      refine ⟨fun j y hy => ?_, fun j j' x y hj hx hy => ?_⟩
      · have := h 0 (j + 1) z y (by omega) rfl (by simpa using hy)
        rwa [show i + (j + 1) = i + 1 + j by omega] at this
      · have := h (j + 1) (j' + 1) x y (by omega) (by simpa using hx) (by simpa using hy)
        rwa [show i + (j' + 1) = i + 1 + j' by omega, show i + (j + 1) = i + 1 + j by omega] at this
structure Tim (r : Rec) (M : List Int) (o ti te : Int) (ts : Nat → Int) (P : Int → Int) : Prop where
  inn : r.s.inn.lo ≤ ti - o ∧ ti - o ≤ r.s.inn.hi
  out : r.s.out.lo ≤ te - o ∧ te - o ≤ r.s.out.hi
  sights : ∀ x ∈ r.sights, x.seen.lo ≤ ts (strikeI x.strike 0 r.strikes).toNat - o ∧ ts (strikeI x.strike 0 r.strikes).toNat - o ≤ x.seen.hi
  row : ∀ j, j < r.strikes.length + 1 → (if 0 < j then ts (j - 1) else ti) ≤ (if j < r.strikes.length then ts j else te)
  zero : P r.s.zero.lo ≤ ti ∧ ti ≤ P (r.s.zero.hi + 1)
  fin : P r.s.fin.lo ≤ te ∧ te ≤ P (r.s.fin.hi + 1)
  strikes : ∀ j x, r.strikes[j]? = some x → P x.pos.lo ≤ ts j ∧ ts j ≤ P (x.pos.hi + 1)
  pairs : ∀ x ∈ M, ∀ y ∈ M, x < y → (leastR r.s x y).1 ≤ P y - P x ∧ P y - P x ≤ (leastR r.s x y).2
theorem strikeI_nn {r : Rec} (hv : r.V) {x : Sight} (hx : x ∈ r.sights) : 0 ≤ strikeI x.strike 0 r.strikes ∧ strikeI x.strike 0 r.strikes < (r.strikes.length : Int) := by
  obtain ⟨_, _, _, b4⟩ := hv.sights x hx
  rcases strikeI_case x.strike r.strikes 0 with ⟨h, _⟩ | ⟨i, h1, h, _⟩
  · exact absurd b4 h
  · rw [h]; omega
theorem sat_iff {f : Nat → Int} (r : Rec) (more : List Int) : Sat f (linksR r more) ↔
    (r.s.inn.lo ≤ f 1 - f 0 ∧ f 1 - f 0 ≤ r.s.inn.hi) ∧ (r.s.out.lo ≤ f 2 - f 0 ∧ f 2 - f 0 ≤ r.s.out.hi) ∧
    (∀ x ∈ r.sights, x.seen.lo ≤ f (3 + strikeI x.strike 0 r.strikes).toNat - f 0 ∧ f (3 + strikeI x.strike 0 r.strikes).toNat - f 0 ≤ x.seen.hi) ∧
    (∀ j, 0 ≤ j → j < 0 + (r.strikes.length + 1) → f (if 0 < j then 2 + j else 1) ≤ f (if j < r.strikes.length then 3 + j else 2)) ∧
    (f (atI 4 r.s.zero.lo 0 (nodesR r more)).toNat ≤ f 1 ∧ f 1 ≤ f (atI 4 (r.s.zero.hi + 1) 0 (nodesR r more)).toNat) ∧
    (∀ j x, r.strikes[j]? = some x → f (atI 4 x.pos.lo 0 (nodesR r more)).toNat ≤ f (3 + (0 + j)) ∧ f (3 + (0 + j)) ≤ f (atI 4 (x.pos.hi + 1) 0 (nodesR r more)).toNat) ∧
    (f (atI 4 r.s.fin.lo 0 (nodesR r more)).toNat ≤ f 2 ∧ f 2 ≤ f (atI 4 (r.s.fin.hi + 1) 0 (nodesR r more)).toNat) ∧
    (∀ j j' x y, j < j' → (marksR r more)[j]? = some x → (marksR r more)[j']? = some y → (leastR r.s x y).1 ≤ f (3 + r.strikes.length + j') - f (3 + r.strikes.length + j) ∧ f (3 + r.strikes.length + j') - f (3 + r.strikes.length + j) ≤ (leastR r.s x y).2) := by
  unfold linksR
  rw [sat_append, sat_append, sat_append, sat_append, sat_append, sat_append, sat_append, sat_both, sat_both, sat_sg, sat_rw, sat_needle, sat_nd, sat_needle, sat_pairs]
theorem mark_get {r : Rec} {more : List Int} {x : Int} (h : x ∈ marksR r more) : ∃ j, (marksR r more)[j]? = some x ∧ (atI 4 x 0 (nodesR r more)).toNat = 3 + r.strikes.length + j := by
  obtain ⟨j, hj, hx⟩ := List.getElem_of_mem h
  have hg : (marksR r more)[j]? = some x := by rw [List.getElem?_eq_getElem hj, hx]
  have := at_mark_ix (r := r) (more := more) (j := j) (x := x) hj (by rw [List.getD_eq_getElem?_getD, hg]; rfl)
  rw [atP_mark h] at this
  exact ⟨j, hg, by omega⟩
theorem getElem_lt {l : List Int} (hs : l.Pairwise (· < ·)) {j j' : Nat} {x y : Int} (hx : l[j]? = some x) (hy : l[j']? = some y) : j < j' ↔ x < y := by
  obtain ⟨h1, rfl⟩ := List.getElem?_eq_some_iff.1 hx
  obtain ⟨h2, rfl⟩ := List.getElem?_eq_some_iff.1 hy
  rcases Nat.lt_trichotomy j j' with h | h | h
  · exact ⟨fun _ => List.pairwise_iff_getElem.1 hs j j' h1 h2 h, fun _ => h⟩
  · subst h; constructor <;> intro h <;> omega
  · have := List.pairwise_iff_getElem.1 hs j' j h2 h1 h
    constructor <;> intro h <;> omega
theorem tim_of {r : Rec} (hv : r.V) {more : List Int} {f : Nat → Int} (h : Sat f (linksR r more)) :
    Tim r (marksR r more) (f 0) (f 1) (f 2) (fun i => f (3 + i)) (fun p => f (atI 4 p 0 (nodesR r more)).toNat) := by
  obtain ⟨h1, h2, h3, h4, h5, h6, h7, h8⟩ := (sat_iff r more).1 h
  refine ⟨h1, h2, fun x hx => ?_, fun j hj => ?_, h5, h7, fun j x hx => ?_, fun x hx y hy hxy => ?_⟩
  · have := strikeI_nn hv hx
    have h9 := h3 x hx
    rwa [show (3 + strikeI x.strike 0 r.strikes).toNat = 3 + (strikeI x.strike 0 r.strikes).toNat by omega] at h9
  · have := h4 j (Nat.zero_le _) (by omega)
    by_cases hz : 0 < j
    · rw [if_pos hz] at this ⊢
      rw [show 3 + (j - 1) = 2 + j by omega]
      split at this <;> simp [*]
    · rw [if_neg hz] at this ⊢
      split at this <;> simp [*]
  · have := h6 j x hx
    rwa [Nat.zero_add] at this
  · obtain ⟨j, g1, g2⟩ := mark_get hx
    obtain ⟨j', g3, g4⟩ := mark_get hy
    have := h8 j j' x y ((getElem_lt (marksR_sorted r more) g1 g3).2 hxy) g1 g3
    rw [g2, g4]; exact this
def potOf (r : Rec) (M : List Int) (o ti te : Int) (ts : Nat → Int) (P : Int → Int) (k : Nat) : Int :=
  if k = 0 then o else if k = 1 then ti else if k = 2 then te else if k < 3 + r.strikes.length then ts (k - 3) else P (M.getD (k - (3 + r.strikes.length)) 0)
theorem pot_strike {r : Rec} {M : List Int} {o ti te : Int} {ts : Nat → Int} {P : Int → Int} {i : Nat} (h : i < r.strikes.length) : potOf r M o ti te ts P (3 + i) = ts i := by
  unfold potOf
  rw [if_neg (by omega), if_neg (by omega), if_neg (by omega), if_pos (by omega), show 3 + i - 3 = i by omega]
theorem pot_mark {r : Rec} {M : List Int} {o ti te : Int} {ts : Nat → Int} {P : Int → Int} {j : Nat} {x : Int} (h : M[j]? = some x) : potOf r M o ti te ts P (3 + r.strikes.length + j) = P x := by
  unfold potOf
  rw [if_neg (by omega), if_neg (by omega), if_neg (by omega), if_neg (by omega), show 3 + r.strikes.length + j - (3 + r.strikes.length) = j by omega, List.getD_eq_getElem?_getD, h]; rfl
theorem sat_of {r : Rec} (hv : r.V) {more : List Int} {o ti te : Int} {ts : Nat → Int} {P : Int → Int} (h : Tim r (marksR r more) o ti te ts P) : Sat (potOf r (marksR r more) o ti te ts P) (linksR r more) := by
  have hat : ∀ {x : Int}, x ∈ marksR r more → potOf r (marksR r more) o ti te ts P (atI 4 x 0 (nodesR r more)).toNat = P x := fun {x} hx => by
    obtain ⟨j, g1, g2⟩ := mark_get hx
    rw [g2]; exact pot_mark g1
  have hmem := fun {a : Int} => marksR_mem (r := r) (more := more) (a := a)
  have e0 : potOf r (marksR r more) o ti te ts P 0 = o := rfl
  have e1 : potOf r (marksR r more) o ti te ts P 1 = ti := rfl
  have e2 : potOf r (marksR r more) o ti te ts P 2 = te := rfl
  rw [sat_iff]
  rw [e0, e1, e2, hat (hmem.2 (.inl (.inl rfl))), hat (hmem.2 (.inl (.inr (.inl rfl)))), hat (hmem.2 (.inl (.inr (.inr (.inl rfl))))), hat (hmem.2 (.inl (.inr (.inr (.inr rfl)))))]
  refine ⟨h.inn, h.out, fun x hx => ?_, fun j _ hj => ?_, h.zero, fun j x hx => ?_, h.fin, fun j j' x y hj hx hy => ?_⟩
  · have hs := strikeI_nn hv hx
    rw [show (3 + strikeI x.strike 0 r.strikes).toNat = 3 + (strikeI x.strike 0 r.strikes).toNat by omega, pot_strike (by omega)]
    exact h.sights x hx
  · have := h.row j (by omega)
    have a1 : potOf r (marksR r more) o ti te ts P (if 0 < j then 2 + j else 1) = if 0 < j then ts (j - 1) else ti := by
      split
      · rw [show 2 + j = 3 + (j - 1) by omega, pot_strike (by omega)]
      · rfl
    have a2 : potOf r (marksR r more) o ti te ts P (if j < r.strikes.length then 3 + j else 2) = if j < r.strikes.length then ts j else te := by
      split
      · rename_i hjs; rw [pot_strike hjs]
      · rfl
    rw [a1, a2]; exact this
  · have hj := (List.getElem?_eq_some_iff.1 hx).1
    have hxm : x ∈ r.strikes := List.mem_of_getElem? hx
    rw [Nat.zero_add, pot_strike hj, hat (hmem.2 (.inr (.inl ⟨x, hxm, .inl rfl⟩))), hat (hmem.2 (.inr (.inl ⟨x, hxm, .inr rfl⟩)))]
    exact h.strikes j x hx
  · rw [pot_mark hx, pot_mark hy]
    exact h.pairs x (List.mem_of_getElem? hx) y (List.mem_of_getElem? hy) ((getElem_lt (marksR_sorted r more) hx hy).1 hj)
end Go.Proofs.Ks
