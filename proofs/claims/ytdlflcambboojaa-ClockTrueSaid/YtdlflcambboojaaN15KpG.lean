/-
  Contracts of functions, proved by going through their code. No conditions.
-/
import Derived.Test.YtdlflcambboojaaRaa
import Derived.Test.YtdlflcambboojaaN15KpF
set_option linter.unusedVariables false
set_option linter.unusedSimpArgs false
namespace Go.Proofs.Ks
open Go Go.Pg Go.Proofs
def hit (l : List Stop) (z : Int) : Prop := z ∈ l.map (·.pos)
instance (l : List Stop) (z : Int) : Decidable (hit l z) := inferInstanceAs (Decidable (z ∈ l.map (·.pos)))
theorem hit_cons {t : Stop} {l : List Stop} {z : Int} : hit (t :: l) z ↔ z = t.pos ∨ hit l z := by unfold hit; simp
theorem sum2_cons {y : Leg} {L : List Leg} {p : Int} : ∀ {l : List Stop}, l.Pairwise (fun a b => a.pos ≠ b.pos) →
    sumS2 (y :: L) p l = (if y.rate = 0 ∧ hit l (p / 1000000) then y.secs else 0) + sumS2 L (p + y.secs * y.rate) l
  | [], _ => by simp [sumS2, hit]
  | t :: l, h => by
    rw [List.pairwise_cons] at h
    have ih := sum2_cons (y := y) (L := L) (p := p) h.2
    simp only [sumS2, stoodZ]
    rw [ih]
    by_cases h0 : y.rate = 0
    · by_cases h1 : p / 1000000 = t.pos
      · have h2 : ¬ hit l (p / 1000000) := fun e => by
          obtain ⟨u, hu, e⟩ := List.mem_map.1 e
          exact h.1 u hu (h1.symm.trans e.symm)
        rw [if_pos ⟨h0, h1⟩, if_neg (fun e => h2 e.2), if_pos ⟨h0, hit_cons.2 (.inl h1)⟩]; omega
      · rw [if_neg (fun e => h1 e.2)]
        by_cases h2 : hit l (p / 1000000)
        · rw [if_pos ⟨h0, h2⟩, if_pos ⟨h0, hit_cons.2 (.inr h2)⟩]; omega
        · rw [if_neg (fun e => h2 e.2), if_neg (fun e => (hit_cons.1 e.2).elim h1 h2)]; omega
    · rw [if_neg (fun e => h0 e.1), if_neg (fun e => h0 e.1), if_neg (fun e => h0 e.1)]; omega
theorem sumS_cons {y : Leg} {L : List Leg} {p a b : Int} : ∀ {l : List Stop}, l.Pairwise (fun a b => a.pos ≠ b.pos) →
    sumS (fun t => stoodZ (y :: L) p t.pos) a b l 0 = (if y.rate = 0 ∧ a ≤ p / 1000000 ∧ p / 1000000 < b ∧ hit l (p / 1000000) then y.secs else 0) + sumS (fun t => stoodZ L (p + y.secs * y.rate) t.pos) a b l 0
  | [], _ => by simp [sumS, hit]
  | t :: l, h => by
    rw [List.pairwise_cons] at h
    have ih := sumS_cons (y := y) (L := L) (p := p) (a := a) (b := b) h.2
    unfold sumS
    by_cases hc : a ≤ t.pos ∧ t.pos < b
    · rw [if_pos hc, if_pos hc, sumS_go _ a b l, sumS_go _ a b l (0 + _), ih]
      simp only [stoodZ]
      by_cases h0 : y.rate = 0
      · by_cases h1 : p / 1000000 = t.pos
        · have h2 : ¬ hit l (p / 1000000) := fun e => by
            obtain ⟨u, hu, e⟩ := List.mem_map.1 e
            exact h.1 u hu (h1.symm.trans e.symm)
          rw [if_pos ⟨h0, h1⟩, if_neg (fun e => h2 e.2.2.2), if_pos ⟨h0, by omega, by omega, hit_cons.2 (.inl h1)⟩]; omega
        · rw [if_neg (fun e => h1 e.2)]
          by_cases h2 : a ≤ p / 1000000 ∧ p / 1000000 < b ∧ hit l (p / 1000000)
          · rw [if_pos ⟨h0, h2⟩, if_pos ⟨h0, h2.1, h2.2.1, hit_cons.2 (.inr h2.2.2)⟩]; omega
          · rw [if_neg (fun e => h2 e.2), if_neg (fun e => h2 ⟨e.2.1, e.2.2.1, (hit_cons.1 e.2.2.2).resolve_left h1⟩)]; omega
      · rw [if_neg (fun e => h0 e.1), if_neg (fun e => h0 e.1), if_neg (fun e => h0 e.1)]; omega
    · rw [if_neg hc, if_neg hc, ih]
      by_cases h0 : y.rate = 0 ∧ a ≤ p / 1000000 ∧ p / 1000000 < b
      · have h1 : ¬ p / 1000000 = t.pos := fun e => hc (by omega)
        by_cases h2 : hit l (p / 1000000)
        · rw [if_pos ⟨h0.1, h0.2.1, h0.2.2, h2⟩, if_pos ⟨h0.1, h0.2.1, h0.2.2, hit_cons.2 (.inr h2)⟩]
        · rw [if_neg (fun e => h2 e.2.2.2), if_neg (fun e => (hit_cons.1 e.2.2.2).elim h1 h2)]
      · rw [if_neg (fun e => h0 ⟨e.1, e.2.1, e.2.2.1⟩), if_neg (fun e => h0 ⟨e.1, e.2.1, e.2.2.1⟩)]
theorem sum2_nil (p : Int) : ∀ l : List Stop, sumS2 [] p l = 0
  | [] => rfl
  | t :: l => by simp only [sumS2, stoodZ, sum2_nil p l]; rfl
theorem sumS_nil (p a b : Int) : ∀ l : List Stop, sumS (fun t => stoodZ [] p t.pos) a b l 0 = 0
  | [] => rfl
  | t :: l => by
    unfold sumS
    simp only [stoodZ]
    split <;> exact sumS_nil p a b l
theorem stand_stops (a b : Int) {l : List Stop} (hd : l.Pairwise (fun a b => a.pos ≠ b.pos)) : ∀ {L : List Leg} {p : Int}, (∀ y ∈ L, 1 ≤ y.secs) →
    0 ≤ allZ L - sumS2 L p l ∧ (allZ L - sumS2 L p l = 0 → standL a b p L = sumS (fun t => stoodZ L p t.pos) a b l 0)
  | [], p, _ => by rw [sum2_nil, sumS_nil]; exact ⟨Int.le_refl _, fun _ => rfl⟩
  | y :: L, p, h => by
    have hy := h y (by simp)
    obtain ⟨h1, h2⟩ := stand_stops a b hd (L := L) (p := p + y.secs * y.rate) fun z hz => h z (List.mem_cons_of_mem _ hz)
    rw [sum2_cons hd, sumS_cons hd]
    simp only [allZ, standL]
    by_cases h0 : y.rate = 0
    · rw [if_pos h0]
      by_cases hh : hit l (p / 1000000)
      · rw [if_pos ⟨h0, hh⟩]
        refine ⟨by omega, fun e => ?_⟩
        rw [h2 (by omega)]
        congr 1
        by_cases hc : a ≤ p / 1000000 ∧ p / 1000000 < b
        · rw [if_pos ⟨h0, hc⟩, if_pos ⟨h0, hc.1, hc.2, hh⟩]
        · rw [if_neg (fun e => hc e.2), if_neg (fun e => hc ⟨e.2.1, e.2.2.1⟩)]
      · rw [if_neg (fun e => hh e.2)]
        exact ⟨by omega, fun e => by omega⟩
    · rw [if_neg h0, if_neg (fun e => h0 e.1), if_neg (fun e => h0 e.1), if_neg (fun e => h0 e.1)]
      exact ⟨by omega, fun e => by rw [h2 (by omega)]⟩
end Go.Proofs.Ks
