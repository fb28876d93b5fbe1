/-
  Contracts of functions, proved by going through their code. No conditions.
-/
import Derived.Test.YtdlflcambboojaaSaa
import Derived.Test.YtdlflcambboojaaSbb
import Derived.Test.YtdlflcambboojaaSbe
import Derived.Test.YtdlflcambboojaaN11KlT
set_option linter.unusedVariables false
set_option linter.unusedSimpArgs false
namespace Go.Proofs.Ks
open Go Go.Pg Go.Proofs
section
variable {L : List Lk} {n : Nat} {B : Int}
theorem attained (hL : ∀ l ∈ L, l.a < n ∧ l.b < n) (hB0 : 0 ≤ B) (hB : ∀ l ∈ L, -B ≤ l.m ∧ l.m ≤ B) (hfar : B * (n : Int) < far) (hn : NoNeg L) {s k : Nat} (hs : s < n) (hk : k < n) :
    ∃ f, Sat f L ∧ (lengthsF n L (s : Int)).1.getD k 0 ≤ f k - f s ∧ (¬ (lengthsF n L (s : Int)).1.getD k 0 < far → ∀ C : Int, ∃ g, Sat g L ∧ C ≤ g k - g s) := by
  have hd := lengths_dist hL hB0 hB hfar hn (s : Int)
  obtain ⟨h, hh⟩ := pot_of_noNeg hL hB0 hB hfar hn
  obtain ⟨d, hdd⟩ : ∃ d, (fun k => (lengthsF n L (s : Int)).1.getD k 0) = d := ⟨_, rfl⟩
  rw [hdd] at hd
  have hdk : ∀ v, (lengthsF n L (s : Int)).1.getD v 0 = d v := fun v => by rw [← hdd]
  rw [hdk]
  have hsrc : SrcF n (s : Int) s := ⟨hs, .inr rfl⟩
  have hone : ∀ {z}, SrcF n (s : Int) z → z = s := fun {z} hz => by have := hz.2; omega
  have d0 : d s = 0 := by
    have h1 := hd.low s [] s hsrc rfl
    have hf : (0 : Int) < far := by decide
    simp only [lenW] at h1
    obtain ⟨z, p, hz, hw, hp⟩ := hd.real s hs (by omega)
    rw [hone hz] at hw
    have := hn s p hw
    omega
  have key : ∀ C : Int, 0 ≤ h s + C → ∃ f, Sat f L ∧ f s = 0 ∧ (d k < far → f k = min (d k) (h k + C)) ∧ (¬ d k < far → f k = h k + C) := fun C hC => by
    refine ⟨fun v => if d v < far then min (d v) (h v + C) else h v + C, fun l hl => ?_, ?_, fun e => if_pos e, fun e => if_neg e⟩
    · obtain ⟨ha, hb⟩ := hL l hl
      have hh' := hh l hl
      dsimp only
      by_cases e : d l.a < far
      · obtain ⟨z, p, hz, hw, hp⟩ := hd.real l.a ha e
        rw [hone hz] at hw
        have hw2 := hw.snoc hl
        have h1 := hd.low s _ l.b hsrc hw2
        rw [lenW_append, hp] at h1
        have e1 : lenW [l] = l.m := by simp [lenW]
        rw [e1] at h1
        obtain ⟨q, q1, q2, q3⟩ := hn.short hw2
        have h2 := Semi.lt hL hB0 hB hfar q3.semi q1 hs
        have h3 := hd.low s q l.b hsrc q1
        rw [if_pos e, if_pos (by omega)]
        omega
      · rw [if_neg e]
        split <;> omega
    · dsimp only
      rw [d0, if_pos (by decide)]; omega
  obtain ⟨f, f1, f2, f3, f4⟩ := key ((if h s < 0 then -(h s) else 0) + (if h k < far then far - h k else 0)) (by split <;> split <;> omega)
  have hle := hd.le k hk
  refine ⟨f, f1, ?_, fun hno C => ?_⟩
  · rw [f2]
    by_cases e : d k < far
    · rw [f3 e]
      split <;> split <;> omega
    · rw [f4 e]
      split <;> split <;> omega
  · obtain ⟨g, g1, g2, _, g4⟩ := key ((if h s < 0 then -(h s) else 0) + (if h k < C then C - h k else 0)) (by split <;> split <;> omega)
    refine ⟨g, g1, ?_⟩
    rw [g2, g4 hno]
    split <;> split <;> omega
end
theorem dist_le {L M : List Lk} {n m : Nat} {B : Int} (hL : ∀ l ∈ L, l.a < n ∧ l.b < n) (hM : ∀ l ∈ M, l.a < m ∧ l.b < m) (hB0 : 0 ≤ B) (hB : ∀ l ∈ L, -B ≤ l.m ∧ l.m ≤ B) (hBM : ∀ l ∈ M, -B ≤ l.m ∧ l.m ≤ B) (hfar : B * (n : Int) < far) (hfarM : B * (m : Int) < far) (hn : NoNeg L) (hnM : NoNeg M)
    {s k s' k' : Nat} (hs : s < n) (hk : k < n) (hk' : k' < m) (hmap : ∀ f, Sat f L → ∃ g, Sat g M ∧ g s' = f s ∧ g k' = f k) :
    (lengthsF n L (s : Int)).1.getD k 0 ≤ (lengthsF m M (s' : Int)).1.getD k' 0 := by
  obtain ⟨f, f1, f2, _⟩ := attained hL hB0 hB hfar hn hs hk
  obtain ⟨g, g1, g2, g3⟩ := hmap f f1
  have hd := lengths_dist hM hB0 hBM hfarM hnM (s' : Int)
  by_cases e : (lengthsF m M (s' : Int)).1.getD k' 0 < far
  · obtain ⟨z, p, hz, hw, hp⟩ := hd.real k' hk' e
    have hz' : z = s' := by have := hz.2; omega
    subst hz'
    have := hw.pot (f := g) g1
    have hp' : lenW p = (lengthsF m M (z : Int)).1.getD k' 0 := hp
    omega
  · have := (lengths_dist hL hB0 hB hfar hn (s : Int)).le k hk
    omega
theorem spansP_get {r : Rec} {i : Nat} (h : i < r.strikes.length) : (spansP r)[i]? = some (spanF (nodesR r []) (linksR r []) 0 (3 + i)) := by
  unfold spansP
  rw [List.getElem?_map, List.getElem?_range h]; rfl
end Go.Proofs.Ks
