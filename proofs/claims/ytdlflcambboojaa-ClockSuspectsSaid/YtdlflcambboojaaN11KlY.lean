/-
  Contracts of functions, proved by going through their code. No conditions.
-/
import Derived.Test.YtdlflcambboojaaSaa
import Derived.Test.YtdlflcambboojaaSaz
import Derived.Test.YtdlflcambboojaaSbc
import Derived.Test.YtdlflcambboojaaSbd
import Derived.Test.YtdlflcambboojaaN11KlX
import Derived.Test.YtdlflcambboojaaN11KlV
set_option linter.unusedVariables false
set_option linter.unusedSimpArgs false
namespace Go.Proofs.Ks
open Go Go.Pg Go.Proofs
structure Pf (L : List Lk) (n s : Nat) (d b : List Int) (t : Nat → Nat) (T : Nat) : Prop where
  lend : d.length = n
  lenb : b.length = n
  old : ∀ v, v < n → t v = 0 → v = s ∨ ¬ d.getD v 0 < far
  now : ∀ v, t v ≤ T
  par : ∀ v, v < n → 0 < t v → (0 ≤ b.getD v 0 ∧ b.getD v 0 < (L.length : Int)) ∧ (lkAt L (b.getD v 0)).b = v ∧ d.getD (lkAt L (b.getD v 0)).a 0 < far ∧
    (d.getD (lkAt L (b.getD v 0)).a 0 + (lkAt L (b.getD v 0)).m < d.getD v 0 ∨ (d.getD (lkAt L (b.getD v 0)).a 0 + (lkAt L (b.getD v 0)).m = d.getD v 0 ∧ t (lkAt L (b.getD v 0)).a < t v))
section
variable {L : List Lk} {n s : Nat} {d b : List Int} {t : Nat → Nat} {T : Nat} {B : Int}
theorem Pf.relax (h : Pf L n s d b t T) {k : Nat} {l : Lk} (hl : L[k]? = some l) (ha : l.a < n) (hb : l.b < n) (hne : l.a ≠ l.b) (hi : Imp d l) :
    Pf L n s (d.set l.b (d.getD l.a 0 + l.m)) (b.set l.b (k : Int)) (fun v => if v = l.b then T + 1 else t v) (T + 1) := by
  have hbd : l.b < d.length := by rw [h.lend]; exact hb
  have hbb : l.b < b.length := by rw [h.lenb]; exact hb
  have hkl : k < L.length := (List.getElem?_eq_some_iff.1 hl).1
  have hlk := lkAt_nat hl
  have hd : ∀ v, (d.set l.b (d.getD l.a 0 + l.m)).getD v 0 = if l.b = v then d.getD l.a 0 + l.m else d.getD v 0 := fun v => getD_set hbd
  have hb' : ∀ v, (b.set l.b (k : Int)).getD v 0 = if l.b = v then (k : Int) else b.getD v 0 := fun v => getD_set hbb
  have hmon : ∀ v, (d.set l.b (d.getD l.a 0 + l.m)).getD v 0 ≤ d.getD v 0 := fun v => by
    rw [hd]; split
    · rename_i e; subst e; have := hi.2; omega
    · exact Int.le_refl _
  have hda : (d.set l.b (d.getD l.a 0 + l.m)).getD l.a 0 = d.getD l.a 0 := by rw [hd, if_neg (fun e => hne e.symm)]
  refine ⟨by simp [h.lend], by simp [h.lenb], fun v hv ht => ?_, fun v => ?_, fun v hv ht => ?_⟩
  · by_cases e : v = l.b
    · rw [if_pos e] at ht; omega
    · rw [if_neg e] at ht
      rw [hd, if_neg (fun x => e x.symm)]
      exact h.old v hv ht
  · have := h.now v
    split <;> omega
  · rw [hb']
    by_cases e : l.b = v
    · subst e
      rw [if_pos rfl, hlk, hda, hd, if_pos rfl]
      refine ⟨⟨by omega, by omega⟩, rfl, hi.1, .inr ⟨rfl, ?_⟩⟩
      rw [if_neg hne, if_pos rfl]
      have := h.now l.a; omega
    · rw [if_neg (fun x => e x.symm)] at ht
      rw [if_neg e, hd v, if_neg e]
      obtain ⟨p1, p2, p3, hp⟩ := h.par v hv ht
      obtain ⟨Y, hY⟩ : ∃ z, lkAt L (b.getD v 0) = z := ⟨_, rfl⟩
      rw [hY] at p2 p3 hp ⊢
      refine ⟨p1, p2, ?_, ?_⟩
      · have := hmon Y.a; omega
      · by_cases ea : l.b = Y.a
        · have h1 := hi.2
          rw [hd, if_pos ea]
          rw [← ea] at hp
          exact .inl (by omega)
        · rw [hd, if_neg ea, if_neg (fun x => ea x.symm), if_neg (fun x => e x.symm)]
          exact hp
theorem Pf.round (hL : ∀ l ∈ L, l.a < n ∧ l.b < n) (hne : ∀ l ∈ L, l.a ≠ l.b) : ∀ (S : List Lk) (k : Nat) (p : BS) (t : Nat → Nat) (T : Nat), L.drop k = S → Pf L n s p.1 p.2.1 t T → ∃ t' T', Pf L n s (roundF S k p).1 (roundF S k p).2.1 t' T'
  | [], k, p, t, T, _, h => ⟨t, T, h⟩
  | l :: S, k, p, t, T, hS, h => by
    obtain ⟨hl, hd⟩ := drop_getL hS
    have hm := List.mem_of_getElem? hl
    unfold roundF Ks.relax
    by_cases hi : Imp p.1 l
    · rw [if_pos hi]
      exact Pf.round hL hne S (k + 1) _ _ _ hd (h.relax hl (hL l hm).1 (hL l hm).2 (hne l hm) hi)
    · rw [if_neg hi]
      exact Pf.round hL hne S (k + 1) _ _ _ hd h
theorem Pf.loop (hL : ∀ l ∈ L, l.a < n ∧ l.b < n) (hne : ∀ l ∈ L, l.a ≠ l.b) : ∀ (c : Nat) (d b : List Int) (t : Nat → Nat) (T : Nat), Pf L n s d b t T → (loopF L c d b).2.2 < 0 → ∃ t' T', Pf L n s (loopF L c d b).1 (loopF L c d b).2.1 t' T'
  | 0, d, b, t, T, h, hq => by
    unfold loopF at hq ⊢
    rcases last_case L 0 d b with ⟨e, _⟩ | ⟨j, l, _, _, e⟩
    · rw [e]; exact ⟨t, T, h⟩
    · rw [e] at hq
      have : (0 : Int) ≤ (l.b : Int) := Int.natCast_nonneg _
      exact absurd hq (by dsimp only; omega)
  | c + 1, d, b, t, T, h, hq => by
    obtain ⟨t', T', h'⟩ := Pf.round hL hne L 0 (d, b, -1) t T rfl h
    unfold loopF at hq ⊢
    by_cases hs : (roundF L 0 (d, b, -1)).2.2 < 0
    · rw [if_pos hs]; exact ⟨t', T', h'⟩
    · rw [if_neg hs] at hq ⊢
      exact Pf.loop hL hne c _ _ t' T' h' hq
theorem Pf.back (h : Pf L n s d b t T) (hL : ∀ l ∈ L, l.a < n ∧ l.b < n) (hst : ∀ l ∈ L, ¬ Imp d l) {v : Nat} (hv : v < n) (ht : 0 < t v) :
    (0 ≤ b.getD v 0 ∧ b.getD v 0 < (L.length : Int)) ∧ (lkAt L (b.getD v 0)).b = v ∧ (lkAt L (b.getD v 0)).a < n ∧ d.getD (lkAt L (b.getD v 0)).a 0 < far ∧ d.getD (lkAt L (b.getD v 0)).a 0 + (lkAt L (b.getD v 0)).m = d.getD v 0 ∧ t (lkAt L (b.getD v 0)).a < t v := by
  obtain ⟨p1, p2, p3, p4⟩ := h.par v hv ht
  have hm := (lkAt_get p1).2.2
  have h1 := hst _ hm
  unfold Imp at h1
  rw [p2] at h1
  refine ⟨p1, p2, (hL _ hm).1, p3, ?_, ?_⟩ <;> omega
end
end Go.Proofs.Ks
