/-
  Contracts of functions, proved by going through their code. No conditions.
-/
import Derived.Test.YtdlflcambboojaaSaa
import Derived.Test.YtdlflcambboojaaSbc
import Derived.Test.YtdlflcambboojaaN11KlT
set_option linter.unusedVariables false
set_option linter.unusedSimpArgs false
namespace Go.Proofs.Ks
open Go Go.Pg Go.Proofs
structure Bf (L : List Lk) (n : Nat) (d b : List Int) (t : Nat → Nat) (R k : Nat) : Prop where
  mul : R = 0 ∨ L.length ≤ R
  lend : d.length = n
  lenb : b.length = n
  dle : ∀ v, d.getD v 0 ≤ 0
  never : ∀ v, v < n → t v = 0 ∨ (0 ≤ b.getD v 0 ∧ b.getD v 0 < (L.length : Int))
  now : ∀ v, t v ≤ R + k
  to : ∀ v, v < n → 0 < t v → (lkAt L (b.getD v 0)).b = v
  par : ∀ v, v < n → 0 < t v → d.getD (lkAt L (b.getD v 0)).a 0 + (lkAt L (b.getD v 0)).m < d.getD v 0 ∨ (d.getD (lkAt L (b.getD v 0)).a 0 + (lkAt L (b.getD v 0)).m = d.getD v 0 ∧ t (lkAt L (b.getD v 0)).a < t v)
  late : ∀ v, v < n → 0 < t v → t v < t (lkAt L (b.getD v 0)).a + L.length ∨ t v ≤ L.length
  seen : ∀ q l, L[q]? = some l → q < k → d.getD l.b 0 ≤ d.getD l.a 0 + l.m ∨ R + q + 1 < t l.a
  was : ∀ q l, L[q]? = some l → k ≤ q → L.length ≤ R → d.getD l.b 0 ≤ d.getD l.a 0 + l.m ∨ R + q + 1 < t l.a + L.length
theorem lkAt_nat {L : List Lk} {k : Nat} {l : Lk} (h : L[k]? = some l) : lkAt L (k : Int) = l := by
  unfold lkAt
  rw [Int.toNat_natCast, List.getD_eq_getElem?_getD, h]; rfl
section
variable {L : List Lk} {n : Nat} {d b : List Int} {t : Nat → Nat} {R k : Nat}
theorem Bf.pass (h : Bf L n d b t R k) {l : Lk} (hl : L[k]? = some l) (hi : ¬ Imp d l) : Bf L n d b t R (k + 1) := by
  refine ⟨h.mul, h.lend, h.lenb, h.dle, h.never, fun v => by have := h.now v; omega, h.to, h.par, h.late, fun q x hx hq => ?_, fun q x hx hq hR => h.was q x hx (by omega) hR⟩
  by_cases e : q = k
  · subst e
    rw [hl] at hx
    injection hx with hx; subst hx
    refine .inl ?_
    have h1 := h.dle l.a
    unfold Imp at hi
    have : (0 : Int) < far := by decide
    omega
  · exact h.seen q x hx (by omega)
theorem Bf.relax (h : Bf L n d b t R k) {l : Lk} (hl : L[k]? = some l) (ha : l.a < n) (hb : l.b < n) (hne : l.a ≠ l.b) (hi : Imp d l) :
    Bf L n (d.set l.b (d.getD l.a 0 + l.m)) (b.set l.b (k : Int)) (fun v => if v = l.b then R + k + 1 else t v) R (k + 1) := by
  have hbd : l.b < d.length := by rw [h.lend]; exact hb
  have hbb : l.b < b.length := by rw [h.lenb]; exact hb
  have hkl : k < L.length := (List.getElem?_eq_some_iff.1 hl).1
  have hlk := lkAt_nat hl
  have hd : ∀ v, (d.set l.b (d.getD l.a 0 + l.m)).getD v 0 = if l.b = v then d.getD l.a 0 + l.m else d.getD v 0 := fun v => getD_set hbd
  have hb' : ∀ v, (b.set l.b (k : Int)).getD v 0 = if l.b = v then (k : Int) else b.getD v 0 := fun v => getD_set hbb
  have hmon : ∀ v, (d.set l.b (d.getD l.a 0 + l.m)).getD v 0 ≤ d.getD v 0 := fun v => by
    rw [hd]; split
    · rename_i e; subst e; have := hi.2; omega
    · exact Int.le_refl _
  have hda : (d.set l.b (d.getD l.a 0 + l.m)).getD l.a 0 = d.getD l.a 0 := by rw [hd, if_neg (fun e => hne e.symm)]
  have hold : d.getD l.b 0 ≤ d.getD l.a 0 + l.m → False := fun hle => by have := hi.2; omega
  refine ⟨h.mul, by simp [h.lend], by simp [h.lenb], fun v => Int.le_trans (hmon v) (h.dle v), fun v hv => ?_, fun v => ?_, fun v hv ht => ?_, fun v hv ht => ?_, fun v hv ht => ?_, fun q x hx hq => ?_, fun q x hx hq hR => ?_⟩
  · rw [hb']
    by_cases e : l.b = v
    · rw [if_pos e]; exact .inr ⟨by omega, by omega⟩
    · rw [if_neg e, if_neg (fun x => e x.symm)]; exact h.never v hv
  · have := h.now v
    split <;> omega
  · rw [hb']
    by_cases e : l.b = v
    · rw [if_pos e, hlk]; exact e
    · rw [if_neg (fun x => e x.symm)] at ht
      rw [if_neg e]; exact h.to v hv ht
  · rw [hb']
    by_cases e : l.b = v
    · subst e
      rw [if_pos rfl, hlk, hda, hd, if_pos rfl]
      refine .inr ⟨rfl, ?_⟩
      rw [if_neg hne, if_pos rfl]
      have := h.now l.a; omega
    · rw [if_neg (fun x => e x.symm)] at ht
      rw [if_neg e, hd v, if_neg e]
      obtain ⟨Y, hY⟩ : ∃ z, lkAt L (b.getD v 0) = z := ⟨_, rfl⟩
      have hp := h.par v hv ht
      rw [hY] at hp ⊢
      by_cases ea : l.b = Y.a
      · have h1 := hi.2
        rw [hd, if_pos ea]
        rw [← ea] at hp
        refine .inl ?_
        omega
      · rw [hd, if_neg ea, if_neg (fun x => ea x.symm), if_neg (fun x => e x.symm)]
        exact hp
  · rw [hb']
    by_cases e : l.b = v
    · subst e
      simp only [if_true, hlk, if_neg hne]
      by_cases hR : L.length ≤ R
      · rcases h.was k l hl (Nat.le_refl _) hR with hw | hw
        · exact (hold hw).elim
        · exact .inl (by omega)
      · exact .inr (by have := h.mul; omega)
    · rw [if_neg (fun x => e x.symm)] at ht
      rw [if_neg e]
      have hq := h.late v hv ht
      have hn := h.now (lkAt L (b.getD v 0)).a
      rw [if_neg (fun x => e x.symm)]
      split <;> omega
  · by_cases e : q = k
    · subst e
      rw [hl] at hx
      injection hx with hx; subst hx
      refine .inl ?_
      rw [hda, hd, if_pos rfl]
      exact Int.le_refl _
    · have hs := h.seen q x hx (by omega)
      by_cases ea : x.a = l.b
      · refine .inr ?_
        rw [if_pos ea]; omega
      · rw [if_neg ea, hd x.a, if_neg (fun y => ea y.symm)]
        have := hmon x.b
        omega
  · have hs := h.was q x hx (by omega) hR
    have hqL : q < L.length := (List.getElem?_eq_some_iff.1 hx).1
    by_cases ea : x.a = l.b
    · refine .inr ?_
      rw [if_pos ea]; omega
    · rw [if_neg ea, hd x.a, if_neg (fun y => ea y.symm)]
      have := hmon x.b
      omega
theorem Bf.next (h : Bf L n d b t R L.length) : Bf L n d b t (R + L.length) 0 :=
  ⟨by omega, h.lend, h.lenb, h.dle, h.never, fun v => by have := h.now v; omega, h.to, h.par, h.late, fun q x hx hq => by omega, fun q x hx _ _ => by
    rcases h.seen q x hx (List.getElem?_eq_some_iff.1 hx).1 with hs | hs
    · exact .inl hs
    · exact .inr (by omega)⟩
theorem drop_getL {α : Type} {L : List α} {k : Nat} {l : α} {S : List α} (hS : L.drop k = l :: S) : L[k]? = some l ∧ L.drop (k + 1) = S := by
  refine ⟨?_, ?_⟩
  · have h : (L.drop k)[0]? = some l := by rw [hS]; rfl
    rwa [List.getElem?_drop, Nat.add_zero] at h
  · rw [← List.drop_drop, hS]; rfl
theorem Bf.round (hL : ∀ l ∈ L, l.a < n ∧ l.b < n) (hne : ∀ l ∈ L, l.a ≠ l.b) : ∀ (S : List Lk) (k : Nat) (p : BS) (t : Nat → Nat), k ≤ L.length → L.drop k = S → Bf L n p.1 p.2.1 t R k → ∃ t', Bf L n (roundF S k p).1 (roundF S k p).2.1 t' R L.length
  | [], k, p, t, hk, hS, h => by
    have hk' : L.length ≤ k := List.drop_eq_nil_iff.1 hS
    obtain rfl : k = L.length := by omega
    exact ⟨t, h⟩
  | l :: S, k, p, t, hk, hS, h => by
    obtain ⟨hl, hd⟩ := drop_getL hS
    have hkl := (List.getElem?_eq_some_iff.1 hl).1
    have hm := List.mem_of_getElem? hl
    unfold roundF Ks.relax
    by_cases hi : Imp p.1 l
    · rw [if_pos hi]
      exact Bf.round hL hne S (k + 1) _ _ (by omega) hd (h.relax hl (hL l hm).1 (hL l hm).2 (hne l hm) hi)
    · rw [if_neg hi]
      exact Bf.round hL hne S (k + 1) _ _ (by omega) hd (h.pass hl hi)
theorem Bf.last (hL : ∀ l ∈ L, l.a < n ∧ l.b < n) (hne : ∀ l ∈ L, l.a ≠ l.b) : ∀ (S : List Lk) (k : Nat) (d b : List Int) (t : Nat → Nat), L.drop k = S → Bf L n d b t R k → 0 ≤ (lastF S k d b).2.2 →
    ∃ d' t' k' v, Bf L n d' (lastF S k d b).2.1 t' R k' ∧ (lastF S k d b).2.2 = ((v : Nat) : Int) ∧ v < n ∧ R < t' v
  | [], k, d, b, t, hS, h, hq => by simp [lastF] at hq
  | l :: S, k, d, b, t, hS, h, hq => by
    obtain ⟨hl, hd⟩ := drop_getL hS
    have hm := List.mem_of_getElem? hl
    unfold lastF at hq ⊢
    by_cases hi : Imp d l
    · rw [if_pos hi]
      exact ⟨_, _, _, l.b, h.relax hl (hL l hm).1 (hL l hm).2 (hne l hm) hi, rfl, (hL l hm).2, by rw [if_pos rfl]; omega⟩
    · rw [if_neg hi] at hq ⊢
      exact Bf.last hL hne S (k + 1) d b t hd (h.pass hl hi) hq
theorem Bf.loop (hL : ∀ l ∈ L, l.a < n ∧ l.b < n) (hne : ∀ l ∈ L, l.a ≠ l.b) : ∀ (c : Nat) (d b : List Int) (t : Nat → Nat) (R : Nat), Bf L n d b t R 0 → 0 ≤ (loopF L c d b).2.2 →
    ∃ d' t' k' v, Bf L n d' (loopF L c d b).2.1 t' (R + c * L.length) k' ∧ (loopF L c d b).2.2 = ((v : Nat) : Int) ∧ v < n ∧ R + c * L.length < t' v
  | 0, d, b, t, R, h, hq => by
    unfold loopF at hq ⊢
    rw [Nat.zero_mul, Nat.add_zero]
    exact Bf.last hL hne L 0 d b t rfl h hq
  | c + 1, d, b, t, R, h, hq => by
    unfold loopF at hq ⊢
    by_cases hs : (roundF L 0 (d, b, -1)).2.2 < 0
    · rw [if_pos hs] at hq
      exact absurd (show (0 : Int) ≤ -1 from hq) (by decide)
    · rw [if_neg hs] at hq ⊢
      obtain ⟨t', h'⟩ := Bf.round hL hne L 0 (d, b, -1) t (Nat.zero_le _) rfl h
      have := Bf.loop hL hne c _ _ t' (R + L.length) h'.next hq
      rw [Nat.succ_mul, show R + (c * L.length + L.length) = R + L.length + c * L.length by omega]
      exact this
end
end Go.Proofs.Ks
