/-
  Contracts of functions, proved by going through their code. No conditions.
-/
import Derived.Test.YtdlflcambboojaaKaa
import Derived.Test.YtdlflcambboojaaKlT
import Derived.Test.YtdlflcambboojaaKlU
set_option linter.unusedVariables false
set_option linter.unusedSimpArgs false
namespace Go.Proofs.Ks
open Go Go.Pg Go.Proofs
section
variable {L : List Lk} {n : Nat} {B : Int}
theorem attained (hL : ∀ l ∈ L, l.a < n ∧ l.b < n) (hB0 : 0 ≤ B) (hB : ∀ l ∈ L, -B ≤ l.m ∧ l.m ≤ B) (hfar : B * (n : Int) < far) (hn : NoNeg L) {s k : Nat} (hs : s < n) (hk : k < n) :
    ∃ f, Sat f L ∧ (lengthsF n L (s : Int)).1.getD k 0 ≤ f k - f s ∧ (¬ (lengthsF n L (s : Int)).1.getD k 0 < far → ∀ C : Int, ∃ g, Sat g L ∧ C ≤ g k - g s) := by
  have hd := lengths_dist hL hB0 hB hfar hn (s : Int)
  obtain ⟨h, hh⟩ := pot_of_noNeg hL hB0 hB hfar hn
  obtain ⟨d, hdd⟩ : ∃ d, (fun k => (lengthsF n L (s : Int)).1.getD k 0) = d := ⟨_, rfl⟩
  rw [hdd] at hd
  have hdk : ∀ v, (lengthsF n L (s : Int)).1.getD v 0 = d v := fun v => by rw [← hdd]
  rw [hdk]
  have hsrc : SrcF n (s : Int) s := ⟨hs, .inr rfl⟩
  have hone : ∀ {z}, SrcF n (s : Int) z → z = s := fun {z} hz => by have := hz.2; omega
  have d0 : d s = 0 := by
    have h1 := hd.low s [] s hsrc rfl
    have hf : (0 : Int) < far := by decide
    simp only [lenW] at h1
    obtain ⟨z, p, hz, hw, hp⟩ := hd.real s hs (by omega)
    rw [hone hz] at hw
    have := hn s p hw
    omega
  have key : ∀ C : Int, 0 ≤ h s + C → ∃ f, Sat f L ∧ f s = 0 ∧ (d k < far → f k = min (d k) (h k + C)) ∧ (¬ d k < far → f k = h k + C) := fun C hC => by
    refine ⟨fun v => if d v < far then min (d v) (h v + C) else h v + C, fun l hl => ?_, ?_, fun e => if_pos e, fun e => if_neg e⟩
    · obtain ⟨ha, hb⟩ := hL l hl
      have hh' := hh l hl
      dsimp only
      by_cases e : d l.a < far
      · obtain ⟨z, p, hz, hw, hp⟩ := hd.real l.a ha e
        rw [hone hz] at hw
        have hw2 := hw.snoc hl
        have h1 := hd.low s _ l.b hsrc hw2
        rw [lenW_append, hp] at h1
        have e1 : lenW [l] = l.m := by simp [lenW]
        rw [e1] at h1
        obtain ⟨q, q1, q2, q3⟩ := hn.short hw2
        have h2 := Semi.lt hL hB0 hB hfar q3.semi q1 hs
        have h3 := hd.low s q l.b hsrc q1
        rw [if_pos e, if_pos (by omega)]
        omega
      · rw [if_neg e]
        split <;> omega
    · dsimp only
      rw [d0, if_pos (by decide)]; omega
  obtain ⟨f, f1, f2, f3, f4⟩ := key ((if h s < 0 then -(h s) else 0) + (if h k < far then far - h k else 0)) (by split <;> split <;> omega)
  have hle := hd.le k hk
  refine ⟨f, f1, ?_, fun hno C => ?_⟩
  · rw [f2]
    by_cases e : d k < far
    · rw [f3 e]
      split <;> split <;> omega
    · rw [f4 e]
      split <;> split <;> omega
  · obtain ⟨g, g1, g2, _, g4⟩ := key ((if h s < 0 then -(h s) else 0) + (if h k < C then C - h k else 0)) (by split <;> split <;> omega)
    refine ⟨g, g1, ?_⟩
    rw [g2, g4 hno]
    split <;> split <;> omega
end
theorem dist_le {L M : List Lk} {n m : Nat} {B : Int} (hL : ∀ l ∈ L, l.a < n ∧ l.b < n) (hM : ∀ l ∈ M, l.a < m ∧ l.b < m) (hB0 : 0 ≤ B) (hB : ∀ l ∈ L, -B ≤ l.m ∧ l.m ≤ B) (hBM : ∀ l ∈ M, -B ≤ l.m ∧ l.m ≤ B) (hfar : B * (n : Int) < far) (hfarM : B * (m : Int) < far) (hn : NoNeg L) (hnM : NoNeg M)
    {s k s' k' : Nat} (hs : s < n) (hk : k < n) (hk' : k' < m) (hmap : ∀ f, Sat f L → ∃ g, Sat g M ∧ g s' = f s ∧ g k' = f k) :
    (lengthsF n L (s : Int)).1.getD k 0 ≤ (lengthsF m M (s' : Int)).1.getD k' 0 := by
  obtain ⟨f, f1, f2, _⟩ := attained hL hB0 hB hfar hn hs hk
  obtain ⟨g, g1, g2, g3⟩ := hmap f f1
  have hd := lengths_dist hM hB0 hBM hfarM hnM (s' : Int)
  by_cases e : (lengthsF m M (s' : Int)).1.getD k' 0 < far
  · obtain ⟨z, p, hz, hw, hp⟩ := hd.real k' hk' e
    have hz' : z = s' := by have := hz.2; omega
    subst hz'
    have := hw.pot (f := g) g1
    have hp' : lenW p = (lengthsF m M (z : Int)).1.getD k' 0 := hp
    omega
  · have := (lengths_dist hL hB0 hB hfar hn (s : Int)).le k hk
    omega
def oldI (k i : Nat) : Nat := if k ≤ i then i + 1 else i
theorem filter_gone {a : Int} : ∀ (l : List Strike) (k : Nat), (l.map (·.id)).Nodup → (∃ x, l[k]? = some x ∧ x.id = a) → l.filter (fun x => !([a] : List Int).contains x.id) = l.take k ++ l.drop (k + 1)
  | [], k, _, ⟨x, h, _⟩ => by simp at h
  | y :: l, k, hd, ⟨x, h, hx⟩ => by
    rw [List.map_cons, List.nodup_cons] at hd
    obtain ⟨h1, h2⟩ := hd
    rw [List.filter_cons]
    cases k with
    | zero =>
      simp only [List.getElem?_cons_zero, Option.some.injEq] at h
      subst h
      have hc : (!([a] : List Int).contains y.id) = false := by simp [hx]
      rw [hc, if_neg (by decide)]
      simp only [List.take_zero, List.nil_append, Nat.zero_add, List.drop_succ_cons, List.drop_zero]
      refine List.filter_eq_self.2 fun z hz => ?_
      have hne : z.id ≠ a := fun e => h1 (List.mem_map.2 ⟨z, hz, by rw [e, hx]⟩)
      simp [hne]
    | succ k =>
      simp only [List.getElem?_cons_succ] at h
      have hne : y.id ≠ a := fun e => h1 (List.mem_map.2 ⟨x, List.mem_of_getElem? h, by rw [hx, e]⟩)
      rw [if_pos (by simp [hne]), filter_gone l k h2 ⟨x, h, hx⟩]
      simp
theorem gone_get {r : Rec} (hv : r.V) {k : Nat} {a : Strike} (ha : r.strikes[k]? = some a) : (withoutR r [a.id]).strikes.length = r.strikes.length - 1 ∧ ∀ i, (withoutR r [a.id]).strikes[i]? = r.strikes[oldI k i]? := by
  have hk := (List.getElem?_eq_some_iff.1 ha).1
  have e : (withoutR r [a.id]).strikes = r.strikes.take k ++ r.strikes.drop (k + 1) := filter_gone r.strikes k hv.ids ⟨a, ha, rfl⟩
  rw [e]
  refine ⟨by rw [List.length_append, List.length_take, List.length_drop]; omega, fun i => ?_⟩
  unfold oldI
  by_cases h : k ≤ i
  · rw [if_pos h, List.getElem?_append_right (by rw [List.length_take]; omega), List.length_take, List.getElem?_drop, show k + 1 + (i - min k r.strikes.length) = i + 1 by omega]
  · rw [if_neg h, List.getElem?_append_left (by rw [List.length_take]; omega), List.getElem?_take, if_pos (by omega)]
theorem strike_uniq {l : List Strike} (hn : (l.map (·.id)).Nodup) {i j : Nat} {x y : Strike} (hx : l[i]? = some x) (hy : l[j]? = some y) (h : x.id = y.id) : i = j := by
  obtain ⟨h1, e1⟩ := List.getElem?_eq_some_iff.1 hx
  obtain ⟨h2, e2⟩ := List.getElem?_eq_some_iff.1 hy
  have key : ∀ {i j : Nat} (h1 : i < l.length) (h2 : j < l.length), i < j → l[i].id = l[j].id → False := fun {i j} h1 h2 hij e => by
    have := List.pairwise_iff_getElem.1 hn i j (by rw [List.length_map]; exact h1) (by rw [List.length_map]; exact h2) hij
    rw [List.getElem_map, List.getElem_map] at this
    exact this e
  rcases Nat.lt_trichotomy i j with h' | h' | h'
  · exact (key h1 h2 h' (by rw [e1, e2]; exact h)).elim
  · exact h'
  · exact (key h2 h1 h' (by rw [e1, e2]; exact h.symm)).elim
theorem strikeI_get {r : Rec} {n : Int} (h : n ∈ r.strikes.map (·.id)) : ∃ x, r.strikes[(strikeI n 0 r.strikes).toNat]? = some x ∧ x.id = n := by
  rcases strikeI_case n r.strikes 0 with ⟨h1, _⟩ | ⟨i, h1, h2, h3, _⟩
  · exact absurd h h1
  · rw [h2, Nat.zero_add, Int.toNat_natCast]
    refine ⟨r.strikes.getD i default, ?_, h3⟩
    rw [List.getD_eq_getElem?_getD, List.getElem?_eq_getElem h1]; rfl
theorem less_tim {r : Rec} (hc : checkE r = 0) {k : Nat} {a : Strike} (ha : r.strikes[k]? = some a) {o ti te : Int} {ts : Nat → Int} {P : Int → Int} (h : Tim r (marksR r []) o ti te ts P) :
    Tim (withoutR r [a.id]) (marksR (withoutR r [a.id]) []) o ti te (fun i => ts (oldI k i)) P := by
  have hv := checkE_V hc
  have hvx := checkE_V (without_zero hc [a.id])
  have hk := (List.getElem?_eq_some_iff.1 ha).1
  obtain ⟨g1, g2⟩ := gone_get hv ha
  have hmem : ∀ y ∈ (withoutR r [a.id]).strikes, y ∈ r.strikes := fun y hy => (List.mem_filter.1 hy).1
  refine ⟨h.inn, h.out, fun y hy => ?_, fun j hj => ?_, h.zero, h.fin, fun j y hy => ?_, fun y hy z hz hyz => h.pairs y ?_ z ?_ hyz⟩
  · have hy' : y ∈ r.sights := (List.mem_filter.1 hy).1
    have hs := h.sights y hy'
    obtain ⟨u, u1, u2⟩ := strikeI_get (hvx.sights y hy).2.2.2
    obtain ⟨w, w1, w2⟩ := strikeI_get (hv.sights y hy').2.2.2
    rw [g2] at u1
    have := strike_uniq hv.ids u1 w1 (by rw [u2, w2])
    rw [this]; exact hs
  · rw [g1] at hj ⊢
    have h0 := h.row j (by omega)
    have h1 := h.row (j + 1) (by omega)
    have hk0 := h.row k (by omega)
    simp only [Nat.add_sub_cancel, show (0 < j + 1) = True from eq_true (by omega), if_true] at h1
    unfold oldI
    by_cases e0 : j = 0
    · subst e0
      rw [if_neg (by omega)]
      rw [if_neg (by omega)] at h0
      by_cases e1 : 0 < r.strikes.length - 1
      · rw [if_pos e1]
        rw [if_pos (by omega)] at h0 h1
        split
        · omega
        · exact h0
      · rw [if_neg e1]
        rw [if_pos (by omega)] at h0
        rw [if_neg (by omega)] at h1
        omega
    · rw [if_pos (by omega)]
      rw [if_pos (by omega)] at h0
      by_cases e1 : j < r.strikes.length - 1
      · rw [if_pos e1]
        rw [if_pos (by omega)] at h0 h1
        by_cases e2 : k ≤ j - 1
        · rw [if_pos e2, if_pos (by omega), show j - 1 + 1 = j by omega]
          exact h1
        · rw [if_neg e2]
          split
          · omega
          · exact h0
      · rw [if_neg e1]
        rw [if_pos (by omega)] at h0
        rw [if_neg (by omega)] at h1
        split
        · rw [show j - 1 + 1 = j by omega]; exact h1
        · omega
  · rw [g2] at hy
    exact h.strikes _ y hy
  · rw [marksR_mem] at hy ⊢
    rcases hy with hy | ⟨u, hu, hy⟩ | hy
    · exact .inl hy
    · exact .inr (.inl ⟨u, hmem u hu, hy⟩)
    · exact .inr (.inr hy)
  · rw [marksR_mem] at hz ⊢
    rcases hz with hz | ⟨u, hu, hz⟩ | hz
    · exact .inl hz
    · exact .inr (.inl ⟨u, hmem u hu, hz⟩)
    · exact .inr (.inr hz)
theorem spansP_get {r : Rec} {i : Nat} (h : i < r.strikes.length) : (spansP r)[i]? = some (spanF (nodesR r []) (linksR r []) 0 (3 + i)) := by
  unfold spansP
  rw [List.getElem?_map, List.getElem?_range h]; rfl
theorem less_spans {r : Rec} (hc : checkE r = 0) (hq : consP r [] = true) {k : Nat} {a : Strike} (ha : r.strikes[k]? = some a) :
    consP (withoutR r [a.id]) [] = true ∧ ∀ i, i < r.strikes.length - 1 → ∃ x y, (spansP r)[oldI k i]? = some x ∧ (spansP (withoutR r [a.id]))[i]? = some y ∧ y.lo ≤ x.lo ∧ x.hi ≤ y.hi := by
  have hv := checkE_V hc
  have hcx := without_zero hc [a.id]
  have hvx := checkE_V hcx
  have hk := (List.getElem?_eq_some_iff.1 ha).1
  obtain ⟨g1, g2⟩ := gone_get hv ha
  have hqx : consP (withoutR r [a.id]) [] = true := by
    rw [cons_tim hv (by decide) nomore] at hq
    rw [cons_tim hvx (by decide) nomore]
    obtain ⟨o, ti, te, ts, P, h⟩ := hq
    exact ⟨o, ti, te, _, P, less_tim hc ha h⟩
  refine ⟨hqx, fun i hi => ?_⟩
  have ho : oldI k i < r.strikes.length := by unfold oldI; split <;> omega
  refine ⟨_, _, spansP_get ho, spansP_get (by omega), ?_⟩
  obtain ⟨f1, f2, f3, f4, f5⟩ := links_facts (more := []) hv (by decide) nomore
  obtain ⟨e1, e2, e3, e4, e5⟩ := links_facts (more := []) hvx (by decide) nomore
  have hl := nodesR_len r []
  have hlx := nodesR_len (withoutR r [a.id]) []
  have n1 : NoNeg (linksR r []) := (lengths_noNeg f3 (by decide : (0 : Int) ≤ 1073741823) f4 (facts_far f1)).1 (of_decide_eq_true hq)
  have n2 : NoNeg (linksR (withoutR r [a.id]) []) := (lengths_noNeg e3 (by decide : (0 : Int) ≤ 1073741823) e4 (facts_far e1)).1 (of_decide_eq_true hqx)
  have hmap : ∀ f, Sat f (linksR r []) → ∃ g, Sat g (linksR (withoutR r [a.id]) []) ∧ g 0 = f 0 ∧ g (3 + i) = f (3 + oldI k i) := fun f hf =>
    ⟨_, sat_of hvx (less_tim hc ha (tim_of hv hf)), rfl, pot_strike (by omega)⟩
  have a1 := dist_le f3 e3 (by decide : (0 : Int) ≤ 1073741823) f4 e4 (facts_far f1) (facts_far e1) n1 n2 (s := 0) (k := 3 + oldI k i) (s' := 0) (k' := 3 + i) (by omega) (by omega) (by omega) hmap
  have a2 := dist_le f3 e3 (by decide : (0 : Int) ≤ 1073741823) f4 e4 (facts_far f1) (facts_far e1) n1 n2 (s := 3 + oldI k i) (k := 0) (s' := 3 + i) (k' := 0) (by omega) (by omega) (by omega) (fun f hf => by
    obtain ⟨g, g1, g2, g3⟩ := hmap f hf
    exact ⟨g, g1, g3, g2⟩)
  unfold spanF
  dsimp only
  omega
end Go.Proofs.Ks
