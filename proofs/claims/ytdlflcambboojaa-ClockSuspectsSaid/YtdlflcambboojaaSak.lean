/-
  Contracts of functions, proved by going through their code. No conditions.
-/
import Derived.Test.YtdlflcambboojaaSaa
import Derived.Test.YtdlflcambboojaaSaf
import Derived.Test.YtdlflcambboojaaSai
import Derived.Test.YtdlflcambboojaaSaj
set_option linter.unusedVariables false
set_option linter.unusedSimpArgs false
namespace Go.Proofs.Ks
def far : Int := 1125899906842624
abbrev BS := List Int × List Int × Int
def Imp (d : List Int) (l : Lk) : Prop := d.getD l.a 0 < far ∧ d.getD l.a 0 + l.m < d.getD l.b 0
instance (d : List Int) (l : Lk) : Decidable (Imp d l) := inferInstanceAs (Decidable (_ ∧ _))
def relax (p : BS) (k : Nat) (l : Lk) : BS :=
  if Imp p.1 l then (p.1.set l.b (p.1.getD l.a 0 + l.m), p.2.1.set l.b (k : Int), (l.b : Int)) else p
def roundF : List Lk → Nat → BS → BS
  | [], _, p => p
  | l :: r, k, p => roundF r (k + 1) (relax p k l)
def lastF : List Lk → Nat → List Int → List Int → BS
  | [], _, d, b => (d, b, -1)
  | l :: r, k, d, b => if Imp d l then (d, b.set l.b (k : Int), (l.b : Int)) else lastF r (k + 1) d b
def loopF (L : List Lk) : Nat → List Int → List Int → BS
  | 0, d, b => lastF L 0 d b
  | n + 1, d, b => if (roundF L 0 (d, b, -1)).2.2 < 0 then ((roundF L 0 (d, b, -1)).1, (roundF L 0 (d, b, -1)).2.1, -1) else loopF L n (roundF L 0 (d, b, -1)).1 (roundF L 0 (d, b, -1)).2.1
def initF (n : Nat) (f : Int) : List Int := (List.range n).map fun (i : Nat) => if 0 ≤ f ∧ (i : Int) ≠ f then far else 0
def lengthsF (n : Nat) (L : List Lk) (f : Int) : BS := loopF L n (initF n f) (List.replicate n (-1))
structure Good (L : List Lk) (n : Nat) (Src : Nat → Prop) (d : List Int) (r : Nat) : Prop where
  len : d.length = n
  le : ∀ k, k < n → d.getD k 0 ≤ far
  real : ∀ k, k < n → d.getD k 0 < far → ∃ s p, Src s ∧ Wk L s p k ∧ lenW p = d.getD k 0
  low : ∀ s p k, Src s → Wk L s p k → p.length ≤ r → d.getD k 0 ≤ lenW p
theorem getD_set {d : List Int} {i j : Nat} {x : Int} (h : i < d.length) : (d.set i x).getD j 0 = if i = j then x else d.getD j 0 := by
  rw [List.getD_eq_getElem?_getD, List.getElem?_set, List.getD_eq_getElem?_getD]
  split
  · rename_i e; subst e; simp [h]
  · rfl
section
variable {L : List Lk} {n : Nat} {Src : Nat → Prop} {B : Int}
theorem relax_good (hL : ∀ l ∈ L, l.a < n ∧ l.b < n) (hB0 : 0 ≤ B) (hB : ∀ l ∈ L, -B ≤ l.m ∧ l.m ≤ B) (hfar : B * (n : Int) < far) {p : BS} {r : Nat} (hr : r ≤ n) (hg : Good L n Src p.1 r) (k : Nat) {l : Lk} (hl : l ∈ L) :
    Good L n Src (relax p k l).1 r ∧ (∀ j, (relax p k l).1.getD j 0 ≤ p.1.getD j 0) ∧ (∀ s w, Src s → Wk L s w l.a → w.length ≤ r → (relax p k l).1.getD l.b 0 ≤ lenW w + l.m) := by
  obtain ⟨ha, hb⟩ := hL l hl
  have hbl : l.b < p.1.length := by rw [hg.len]; exact hb
  unfold relax
  split
  · rename_i hi
    have hmon : ∀ j, (p.1.set l.b (p.1.getD l.a 0 + l.m)).getD j 0 ≤ p.1.getD j 0 := fun j => by
      rw [getD_set hbl]
      split
      · rename_i e; subst e; have := hi.2; omega
      · exact Int.le_refl _
    refine ⟨⟨by simp [hg.len], fun j hj => Int.le_trans (hmon j) (hg.le j hj), fun j hj hf => ?_, fun s w j hs hw hl => Int.le_trans (hmon j) (hg.low s w j hs hw hl)⟩, hmon, fun s w hs hw hl => ?_⟩
    · dsimp only at hf ⊢
      rw [getD_set hbl] at hf ⊢
      split
      · rename_i e; subst e
        obtain ⟨s, w, h1, h2, h3⟩ := hg.real l.a ha hi.1
        exact ⟨s, w ++ [l], h1, h2.snoc hl, by rw [lenW_append, h3]; simp [lenW]⟩
      · rename_i e
        rw [if_neg e] at hf
        exact hg.real j hj hf
    · dsimp only
      rw [getD_set hbl, if_pos rfl]
      have := hg.low s w l.a hs hw hl
      omega
  · rename_i hi
    refine ⟨hg, fun j => Int.le_refl _, fun s w hs hw hl' => ?_⟩
    have h1 := hg.low s w l.a hs hw hl'
    have h2 := (lenW_bound w (fun x hx => hB x (hw.mem x hx))).2
    have h3 : B * (w.length : Int) ≤ B * (n : Int) := Int.mul_le_mul_of_nonneg_left (by omega) hB0
    unfold Imp at hi
    omega
theorem round_good (hL : ∀ l ∈ L, l.a < n ∧ l.b < n) (hB0 : 0 ≤ B) (hB : ∀ l ∈ L, -B ≤ l.m ∧ l.m ≤ B) (hfar : B * (n : Int) < far) {r : Nat} (hr : r ≤ n) :
    ∀ (R : List Lk) (k : Nat) (p : BS), (∀ l ∈ R, l ∈ L) → Good L n Src p.1 r →
    Good L n Src (roundF R k p).1 r ∧ (∀ j, (roundF R k p).1.getD j 0 ≤ p.1.getD j 0) ∧ ∀ l ∈ R, ∀ s w, Src s → Wk L s w l.a → w.length ≤ r → (roundF R k p).1.getD l.b 0 ≤ lenW w + l.m
  | [], k, p, _, hg => ⟨hg, fun j => Int.le_refl _, fun l hl => by simp at hl⟩
  | x :: R, k, p, hR, hg => by
    obtain ⟨h1, h2, h3⟩ := relax_good hL hB0 hB hfar hr hg k (hR x (by simp))
    obtain ⟨g1, g2, g3⟩ := round_good hL hB0 hB hfar hr R (k + 1) (relax p k x) (fun l hl => hR l (by simp [hl])) h1
    refine ⟨g1, fun j => Int.le_trans (g2 j) (h2 j), fun l hl s w hs hw hwl => ?_⟩
    rcases List.mem_cons.1 hl with rfl | hl
    · exact Int.le_trans (g2 _) (h3 s w hs hw hwl)
    · exact g3 l hl s w hs hw hwl
theorem round_succ (hL : ∀ l ∈ L, l.a < n ∧ l.b < n) (hB0 : 0 ≤ B) (hB : ∀ l ∈ L, -B ≤ l.m ∧ l.m ≤ B) (hfar : B * (n : Int) < far) {r : Nat} (hr : r ≤ n) {p : BS} (hg : Good L n Src p.1 r) : Good L n Src (roundF L 0 p).1 (r + 1) := by
  obtain ⟨h1, h2, h3⟩ := round_good (Src := Src) hL hB0 hB hfar hr L 0 p (fun _ h => h) hg
  refine ⟨h1.len, h1.le, h1.real, fun s w k hs hw hwl => ?_⟩
  by_cases hle : w.length ≤ r
  · exact h1.low s w k hs hw hle
  · obtain ⟨u, l, rfl⟩ : ∃ u l, w = u ++ [l] := ⟨w.dropLast, w.getLast (by intro e; subst e; simp at hle), (List.dropLast_concat_getLast _).symm⟩
    obtain ⟨w1, w2, rfl⟩ := hw.unsnoc
    have := h3 l w2 s u hs w1 (by simp at hwl; omega)
    rw [lenW_append]; simp only [lenW]; omega
theorem relax_chg (p : BS) (k : Nat) (l : Lk) (h : 0 ≤ p.2.2) : 0 ≤ (relax p k l).2.2 := by
  unfold relax
  split
  · exact Int.natCast_nonneg _
  · exact h
theorem round_chg : ∀ (R : List Lk) (k : Nat) (p : BS), 0 ≤ p.2.2 → 0 ≤ (roundF R k p).2.2
  | [], _, _, h => h
  | l :: R, k, p, h => round_chg R (k + 1) _ (relax_chg p k l h)
theorem round_still : ∀ (R : List Lk) (k : Nat) (p : BS), p.2.2 < 0 → (roundF R k p).2.2 < 0 → roundF R k p = p ∧ ∀ l ∈ R, ¬ Imp p.1 l
  | [], _, _, _, _ => ⟨rfl, fun l hl => by simp at hl⟩
  | x :: R, k, p, h, hq => by
    have hx : ¬ Imp p.1 x := fun hi => by
      have h1 : 0 ≤ (relax p k x).2.2 := by unfold relax; rw [if_pos hi]; exact Int.natCast_nonneg _
      have := round_chg R (k + 1) _ h1
      simp only [roundF] at hq
      omega
    have he : relax p k x = p := by unfold relax; rw [if_neg hx]
    simp only [roundF, he] at hq ⊢
    obtain ⟨h1, h2⟩ := round_still R (k + 1) p h hq
    refine ⟨h1, fun l hl => ?_⟩
    rcases List.mem_cons.1 hl with rfl | hl
    · exact hx
    · exact h2 l hl
theorem last_case : ∀ (R : List Lk) (k : Nat) (d b : List Int), (lastF R k d b = (d, b, -1) ∧ ∀ l ∈ R, ¬ Imp d l) ∨ ∃ j l, R[j]? = some l ∧ Imp d l ∧ lastF R k d b = (d, b.set l.b ((k + j : Nat) : Int), (l.b : Int))
  | [], _, _, _ => .inl ⟨rfl, fun l hl => by simp at hl⟩
  | x :: R, k, d, b => by
    unfold lastF
    by_cases hx : Imp d x
    · rw [if_pos hx]; exact .inr ⟨0, x, rfl, hx, rfl⟩
    · rw [if_neg hx]
      rcases last_case R (k + 1) d b with ⟨h1, h2⟩ | ⟨j, l, h1, h2, h3⟩
      · refine .inl ⟨h1, fun l hl => ?_⟩
        rcases List.mem_cons.1 hl with rfl | hl
        · exact hx
        · exact h2 l hl
      · exact .inr ⟨j + 1, l, by simpa using h1, h2, by rw [h3, show k + 1 + j = k + (j + 1) by omega]⟩
theorem loop_spec (hL : ∀ l ∈ L, l.a < n ∧ l.b < n) (hB0 : 0 ≤ B) (hB : ∀ l ∈ L, -B ≤ l.m ∧ l.m ≤ B) (hfar : B * (n : Int) < far) (hsrc : ∀ s, Src s → s < n) :
    ∀ (c r : Nat) (d b : List Int), c + r = n → Good L n Src d r →
    ((loopF L c d b).2.2 < 0 ∧ Good L n Src (loopF L c d b).1 0 ∧ ∀ l ∈ L, ¬ Imp (loopF L c d b).1 l) ∨ (0 ≤ (loopF L c d b).2.2 ∧ ¬ NoNeg L)
  | 0, r, d, b, hc, hg => by
    unfold loopF
    rcases last_case L 0 d b with ⟨h1, h2⟩ | ⟨j, l, h1, h2, h3⟩
    · rw [h1]
      exact .inl ⟨(by decide : (-1 : Int) < 0), ⟨hg.len, hg.le, hg.real, fun s w k hs hw hwl => hg.low s w k hs hw (by omega)⟩, h2⟩
    · rw [h3]
      refine .inr ⟨Int.natCast_nonneg _, fun hn => ?_⟩
      have hl := List.mem_of_getElem? h1
      obtain ⟨ha, hb⟩ := hL l hl
      obtain ⟨s, w, w1, w2, w3⟩ := hg.real l.a ha h2.1
      obtain ⟨q, q1, q2, q3⟩ := hn.short (w2.snoc hl)
      have q4 := q3.len q1 hL (hsrc s w1)
      have q5 := hg.low s q l.b w1 q1 (by omega)
      rw [lenW_append] at q2
      simp only [lenW] at q2
      have := h2.2
      omega
  | c + 1, r, d, b, hc, hg => by
    unfold loopF
    by_cases hq : (roundF L 0 (d, b, -1)).2.2 < 0
    · rw [if_pos hq]
      obtain ⟨h1, h2⟩ := round_still L 0 (d, b, -1) (by decide : (-1 : Int) < 0) hq
      rw [h1]
      exact .inl ⟨(by decide : (-1 : Int) < 0), ⟨hg.len, hg.le, hg.real, fun s w k hs hw hwl => hg.low s w k hs hw (by omega)⟩, h2⟩
    · rw [if_neg hq]
      exact loop_spec hL hB0 hB hfar hsrc c (r + 1) _ _ (by omega) (round_succ hL hB0 hB hfar (by omega) (p := (d, b, -1)) hg)
def SrcF (n : Nat) (f : Int) (s : Nat) : Prop := s < n ∧ (f < 0 ∨ (s : Int) = f)
theorem init_get (n : Nat) (f : Int) {k : Nat} (h : k < n) : (initF n f).getD k 0 = if 0 ≤ f ∧ (k : Int) ≠ f then far else 0 := by
  unfold initF
  rw [List.getD_eq_getElem?_getD, List.getElem?_map, List.getElem?_range h]; rfl
theorem init_good (hL : ∀ l ∈ L, l.a < n ∧ l.b < n) (f : Int) : Good L n (SrcF n f) (initF n f) 0 := by
  refine ⟨by simp [initF], fun k hk => ?_, fun k hk hf => ?_, fun s p k hs hw hp => ?_⟩
  · rw [init_get n f hk]; split <;> decide
  · rw [init_get n f hk] at hf ⊢
    split at hf
    · exact absurd hf (by decide)
    · rename_i h
      rw [if_neg h]
      exact ⟨k, [], ⟨hk, by omega⟩, rfl, rfl⟩
  · have : p = [] := List.length_eq_zero_iff.1 (by omega)
    subst this
    simp only [Wk] at hw
    subst hw
    rw [init_get n f hs.1, if_neg (by have := hs.2; omega)]
    exact Int.le_refl _
theorem lengths_spec (hL : ∀ l ∈ L, l.a < n ∧ l.b < n) (hB0 : 0 ≤ B) (hB : ∀ l ∈ L, -B ≤ l.m ∧ l.m ≤ B) (hfar : B * (n : Int) < far) (f : Int) :
    ((lengthsF n L f).2.2 < 0 ∧ Good L n (SrcF n f) (lengthsF n L f).1 0 ∧ ∀ l ∈ L, ¬ Imp (lengthsF n L f).1 l) ∨ (0 ≤ (lengthsF n L f).2.2 ∧ ¬ NoNeg L) :=
  loop_spec hL hB0 hB hfar (fun s h => h.1) n 0 _ _ rfl (init_good hL f)
theorem good_low (hL : ∀ l ∈ L, l.a < n ∧ l.b < n) (hB0 : 0 ≤ B) (hB : ∀ l ∈ L, -B ≤ l.m ∧ l.m ≤ B) (hfar : B * (n : Int) < far) {d : List Int} (hg : Good L n Src d 0) (hi : ∀ l ∈ L, ¬ Imp d l) :
    ∀ (c : Nat) (p : List Lk) (s k : Nat), p.length = c → c ≤ n → Src s → Wk L s p k → d.getD k 0 ≤ lenW p
  | 0, p, s, k, hc, _, hs, hw => hg.low s p k hs hw (by omega)
  | c + 1, p, s, k, hc, hcn, hs, hw => by
    obtain ⟨u, l, rfl⟩ : ∃ u l, p = u ++ [l] := ⟨p.dropLast, p.getLast (by intro e; subst e; simp at hc), (List.dropLast_concat_getLast _).symm⟩
    obtain ⟨w1, w2, rfl⟩ := hw.unsnoc
    have hul : u.length = c := by simpa using hc
    have h1 := good_low hL hB0 hB hfar hg hi c u s l.a hul (by omega) hs w1
    have h2 := (lenW_bound u (fun x hx => hB x (w1.mem x hx))).2
    have h3 : B * (u.length : Int) ≤ B * (n : Int) := Int.mul_le_mul_of_nonneg_left (by omega) hB0
    have h4 := hi l w2
    unfold Imp at h4
    rw [lenW_append]
    simp only [lenW]
    omega
theorem lengths_noNeg (hL : ∀ l ∈ L, l.a < n ∧ l.b < n) (hB0 : 0 ≤ B) (hB : ∀ l ∈ L, -B ≤ l.m ∧ l.m ≤ B) (hfar : B * (n : Int) < far) : (lengthsF n L (-1)).2.2 < 0 ↔ NoNeg L := by
  rcases lengths_spec hL hB0 hB hfar (-1) with ⟨h1, h2, h3⟩ | ⟨h1, h2⟩
  · refine ⟨fun _ => NoNeg.of_pot (f := fun k => (lengthsF n L (-1)).1.getD k 0) fun l hl => ?_, fun _ => h1⟩
    obtain ⟨ha, hb⟩ := hL l hl
    have h4 := h2.low l.a [] l.a ⟨ha, .inl (by decide)⟩ rfl (Nat.le_refl _)
    have h5 := h3 l hl
    unfold Imp at h5
    simp only [lenW] at h4
    have h6 : (0 : Int) < far := by decide
    omega
  · exact ⟨fun h => by omega, fun h => absurd h h2⟩
theorem lengths_dist (hL : ∀ l ∈ L, l.a < n ∧ l.b < n) (hB0 : 0 ≤ B) (hB : ∀ l ∈ L, -B ≤ l.m ∧ l.m ≤ B) (hfar : B * (n : Int) < far) (hn : NoNeg L) (f : Int) : Dist L n (SrcF n f) far (fun k => (lengthsF n L f).1.getD k 0) := by
  rcases lengths_spec hL hB0 hB hfar f with ⟨h1, h2, h3⟩ | ⟨h1, h2⟩
  · refine ⟨h2.le, h2.real, fun s p k hs hw => ?_⟩
    obtain ⟨q, q1, q2, q3⟩ := hn.short hw
    have q4 := q3.len q1 hL hs.1
    have := good_low hL hB0 hB hfar h2 h3 q.length q s k rfl (by omega) hs q1
    omega
  · exact absurd hn h2
theorem lengths_len (hL : ∀ l ∈ L, l.a < n ∧ l.b < n) (hB0 : 0 ≤ B) (hB : ∀ l ∈ L, -B ≤ l.m ∧ l.m ≤ B) (hfar : B * (n : Int) < far) (hn : NoNeg L) (f : Int) : (lengthsF n L f).1.length = n := by
  rcases lengths_spec hL hB0 hB hfar f with ⟨_, h2, _⟩ | ⟨_, h2⟩
  · exact h2.len
  · exact absurd hn h2
end
end Go.Proofs.Ks

namespace Go.Proofs.Ks
abbrev Mx := List (List Int)
def mget (o : Mx) (i k : Nat) : Int := (o.getD i []).getD k 0
def mset (o : Mx) (i k : Nat) (v : Int) : Mx := o.set i ((o.getD i []).set k v)
def fwInit (n : Nat) : Mx := (List.range n).map fun i => (List.range n).map fun k => if i ≠ k then far else 0
def fwLink (o : Mx) (l : Lk) : Mx := mset o l.a l.b (min (mget o l.a l.b) l.m)
def fwLinks : List Lk → Mx → Mx
  | [], o => o
  | l :: r, o => fwLinks r (fwLink o l)
def fwCell (m i k : Nat) (o : Mx) : Mx := if mget o i m < far ∧ mget o m k < far then mset o i k (min (mget o i k) (mget o i m + mget o m k)) else o
def fwRow (m i : Nat) : Nat → Nat → Mx → Mx
  | 0, _, o => o
  | c + 1, k, o => fwRow m i c (k + 1) (fwCell m i k o)
def fwStep (m n : Nat) : Nat → Nat → Mx → Mx
  | 0, _, o => o
  | c + 1, i, o => fwStep m n c (i + 1) (fwRow m i n 0 o)
def negD (o : Mx) : Nat → Nat → Bool
  | 0, _ => false
  | c + 1, i => decide (mget o i i < 0) || negD o c (i + 1)
def fwLoop (n : Nat) : Nat → Nat → Mx → Option Mx
  | 0, _, o => some o
  | c + 1, m, o => if negD (fwStep m n n 0 o) n 0 = true then none else fwLoop n c (m + 1) (fwStep m n n 0 o)
def closureF (n : Nat) (L : List Lk) : Option Mx := fwLoop n n 0 (fwLinks L (fwInit n))
def Semi (i : Nat) (p : List Lk) : Prop := (i :: p.dropLast.map (·.b)).Nodup
theorem Simple.semi {i : Nat} {p : List Lk} (h : Simple i p) : Semi i p := by
  unfold Simple at h; unfold Semi
  obtain ⟨h1, h2⟩ := List.nodup_cons.1 h
  refine List.nodup_cons.2 ⟨fun hm => h1 ?_, ?_⟩
  · obtain ⟨l, hl, e⟩ := List.mem_map.1 hm
    exact List.mem_map.2 ⟨l, (List.dropLast_sublist _).subset hl, e⟩
  · rw [List.map_dropLast]
    exact h2.sublist (List.dropLast_sublist _)
theorem Wk.split1 {L : List Lk} : ∀ {p : List Lk} {i k j : Nat}, Wk L i p k → j ∈ p.map (·.b) → ∃ q r, p = q ++ r ∧ q ≠ [] ∧ Wk L i q j ∧ Wk L j r k ∧ j ∉ q.dropLast.map (·.b)
  | [], i, k, j, h, hj => by simp at hj
  | l :: p, i, k, j, h, hj => by
    simp only [List.map_cons, List.mem_cons] at hj
    by_cases he : l.b = j
    · exact ⟨[l], p, rfl, by simp, ⟨h.1, h.2.1, he⟩, he ▸ h.2.2, by simp⟩
    · rcases hj with hj | hj
      · exact absurd hj.symm he
      · obtain ⟨q, r, h1, h2, h3, h4, h5⟩ := Wk.split1 h.2.2 hj
        refine ⟨l :: q, r, by rw [h1]; rfl, by simp, ⟨h.1, h.2.1, h3⟩, h4, ?_⟩
        rw [List.dropLast_cons_of_ne_nil h2]
        simp only [List.map_cons, List.mem_cons, not_or]
        exact ⟨fun e => he e.symm, h5⟩
theorem NoNeg.of_semi {L : List Lk} (hs : ∀ i p, Wk L i p i → Semi i p → 0 ≤ lenW p) : NoNeg L := by
  have short : ∀ {p : List Lk} {i k : Nat}, Wk L i p k → ∃ q, Wk L i q k ∧ lenW q ≤ lenW p ∧ Simple i q := by
    intro p
    induction p with
    | nil => exact fun {i k} h => ⟨[], h, Int.le_refl _, by simp [Simple]⟩
    | cons l p ih =>
      intro i k h
      obtain ⟨q, h1, h2, h3⟩ := ih h.2.2
      by_cases hi : i ∈ l.b :: q.map (·.b)
      · have hw : Wk L i (l :: q) k := ⟨h.1, h.2.1, h1⟩
        obtain ⟨u, r, e1, e2, e3, e4, e5⟩ := hw.split1 (j := i) hi
        have hse : Semi i u := by
          refine List.nodup_cons.2 ⟨e5, ?_⟩
          have h6 : (u.map (·.b) ++ r.map (·.b)).Nodup := by rw [← List.map_append, ← e1]; exact h3
          rw [List.map_dropLast]
          exact (List.nodup_append.1 h6).1.sublist (List.dropLast_sublist _)
        have h4 := hs i u e3 hse
        have h5 : lenW (l :: q) = lenW u + lenW r := by rw [e1, lenW_append]
        refine ⟨r, e4, ?_, ?_⟩
        · simp only [lenW] at h5 ⊢; omega
        · cases u with
          | nil => exact absurd rfl e2
          | cons x u =>
            simp only [List.cons_append, List.cons.injEq] at e1
            obtain ⟨rfl, e1⟩ := e1
            by_cases hu : u = []
            · subst hu
              have := e3.2.2
              simp only [Wk] at this
              rw [List.nil_append] at e1
              rw [← this, ← e1]; exact h3
            · exact h3.suffix e1 hu e3.2.2
      · exact ⟨l :: q, ⟨h.1, h.2.1, h1⟩, by simp only [lenW]; omega, by unfold Simple; exact List.nodup_cons.2 ⟨hi, h3⟩⟩
  intro i p hw
  obtain ⟨q, q1, q2, q3⟩ := short hw
  cases hq : q with
  | nil => subst hq; simpa [lenW] using q2
  | cons x r =>
    exfalso
    obtain ⟨u, l, rfl⟩ : ∃ u l, q = u ++ [l] := ⟨q.dropLast, q.getLast (by rw [hq]; simp), (List.dropLast_concat_getLast _).symm⟩
    obtain ⟨_, _, h3⟩ := q1.unsnoc
    unfold Simple at q3
    refine (List.nodup_cons.1 q3).1 ?_
    rw [← h3]; simp
theorem mget_mset {o : Mx} {n i k i' k' : Nat} {v : Int} (ho : o.length = n) (hr : ∀ i, i < n → (o.getD i []).length = n) (hi : i < n) (hk : k < n) : mget (mset o i k v) i' k' = if i = i' ∧ k = k' then v else mget o i' k' := by
  unfold mget mset
  rw [List.getD_eq_getElem?_getD (l := o.set _ _), List.getElem?_set]
  split
  · rename_i e; subst e
    rw [if_pos (by omega)]
    simp only [Option.getD_some, true_and]
    exact getD_set (by rw [hr i hi]; exact hk)
  · rename_i e
    rw [if_neg (fun h => e h.1), ← List.getD_eq_getElem?_getD]
theorem mset_row {o : Mx} {n i k j : Nat} {v : Int} (ho : o.length = n) (hr : ∀ i, i < n → (o.getD i []).length = n) (hi : i < n) (hj : j < n) : ((mset o i k v).getD j []).length = n := by
  unfold mset
  rw [List.getD_eq_getElem?_getD, List.getElem?_set]
  split
  · rename_i e; subst e
    rw [if_pos (by omega)]; simpa using hr i hi
  · rw [← List.getD_eq_getElem?_getD]; exact hr j hj
structure FW (L : List Lk) (n : Nat) (o : Mx) (m : Nat) : Prop where
  len : o.length = n
  row : ∀ i, i < n → (o.getD i []).length = n
  le : ∀ i k, i < n → k < n → mget o i k ≤ far
  real : ∀ i k, i < n → k < n → mget o i k < far → ∃ p, Wk L i p k ∧ lenW p = mget o i k
  low : ∀ i k p, i < n → k < n → Wk L i p k → Semi i p → (∀ x ∈ p.dropLast.map (·.b), x < m) → mget o i k ≤ lenW p
section
variable {L : List Lk} {n : Nat} {B : Int}
theorem FW.put {o : Mx} {m : Nat} (h : FW L n o m) {i k : Nat} (hi : i < n) (hk : k < n) {v : Int} (hv : v ≤ mget o i k) (hr : v < far → ∃ p, Wk L i p k ∧ lenW p = v) :
    FW L n (mset o i k v) m ∧ ∀ i' k', mget (mset o i k v) i' k' ≤ mget o i' k' := by
  have hg := fun i' k' => mget_mset (v := v) (i' := i') (k' := k') h.len h.row hi hk
  have hmon : ∀ i' k', mget (mset o i k v) i' k' ≤ mget o i' k' := fun i' k' => by
    rw [hg]
    split
    · rename_i e; obtain ⟨rfl, rfl⟩ := e; exact hv
    · exact Int.le_refl _
  refine ⟨⟨by simp [mset, h.len], fun j hj => mset_row h.len h.row hi hj, fun a b ha hb => Int.le_trans (hmon a b) (h.le a b ha hb), fun a b ha hb hf => ?_, fun a b p ha hb hw hs hp => Int.le_trans (hmon a b) (h.low a b p ha hb hw hs hp)⟩, hmon⟩
  rw [hg] at hf ⊢
  split
  · rename_i e; obtain ⟨rfl, rfl⟩ := e
    rw [if_pos ⟨rfl, rfl⟩] at hf
    exact hr hf
  · rename_i e
    rw [if_neg e] at hf
    exact h.real a b ha hb hf
theorem Semi.len {i k : Nat} {p : List Lk} (h : Semi i p) (hw : Wk L i p k) (hL : ∀ l ∈ L, l.a < n ∧ l.b < n) (hi : i < n) : p.length ≤ n := by
  have h1 := pigeon n _ (fun x hx => ?_) h
  · simp only [List.length_cons, List.length_map, List.length_dropLast] at h1; omega
  · rcases List.mem_cons.1 hx with rfl | hx
    · exact hi
    · obtain ⟨l, hl, rfl⟩ := List.mem_map.1 hx
      exact (hL l (hw.mem l ((List.dropLast_sublist _).subset hl))).2
theorem Semi.lt (hL : ∀ l ∈ L, l.a < n ∧ l.b < n) (hB0 : 0 ≤ B) (hB : ∀ l ∈ L, -B ≤ l.m ∧ l.m ≤ B) (hfar : B * (n : Int) < far) {i k : Nat} {p : List Lk} (h : Semi i p) (hw : Wk L i p k) (hi : i < n) : lenW p < far := by
  have h1 := h.len hw hL hi
  have h2 := (lenW_bound p (fun x hx => hB x (hw.mem x hx))).2
  have h3 : B * (p.length : Int) ≤ B * (n : Int) := Int.mul_le_mul_of_nonneg_left (by omega) hB0
  omega
theorem cell_fw (hL : ∀ l ∈ L, l.a < n ∧ l.b < n) (hB0 : 0 ≤ B) (hB : ∀ l ∈ L, -B ≤ l.m ∧ l.m ≤ B) (hfar : B * (n : Int) < far) {o : Mx} {m i k : Nat} (h : FW L n o m) (hm : m < n) (hi : i < n) (hk : k < n) :
    FW L n (fwCell m i k o) m ∧ (∀ i' k', mget (fwCell m i k o) i' k' ≤ mget o i' k') ∧ (∀ p, Wk L i p k → Semi i p → (∀ x ∈ p.dropLast.map (·.b), x < m + 1) → mget (fwCell m i k o) i k ≤ lenW p) := by
  have key : ∀ p, Wk L i p k → Semi i p → (∀ x ∈ p.dropLast.map (·.b), x < m + 1) → mget o i k ≤ lenW p ∨ (mget o i m < far ∧ mget o m k < far ∧ mget o i m + mget o m k ≤ lenW p) := fun p hw hs hp => by
    by_cases hmm : m ∈ p.dropLast.map (·.b)
    · right
      have hpn : p ≠ [] := by intro e; subst e; simp at hmm
      obtain ⟨d, l, rfl⟩ : ∃ d l, p = d ++ [l] := ⟨p.dropLast, p.getLast hpn, (List.dropLast_concat_getLast _).symm⟩
      obtain ⟨w1, w2, w3⟩ := hw.unsnoc
      simp only [List.dropLast_concat] at hmm hp
      unfold Semi at hs
      rw [List.dropLast_concat] at hs
      obtain ⟨s1, s2⟩ := List.nodup_cons.1 hs
      obtain ⟨q, r, e1, e2, e3, e4, e5⟩ := w1.split1 hmm
      subst e1
      obtain ⟨q', x, rfl⟩ : ∃ q' x, q = q' ++ [x] := ⟨q.dropLast, q.getLast e2, (List.dropLast_concat_getLast _).symm⟩
      obtain ⟨_, _, e6⟩ := e3.unsnoc
      simp only [List.map_append, List.map_cons, List.map_nil, List.append_assoc, List.singleton_append, e6, List.mem_append, List.mem_cons, not_or] at s1 s2 hp
      obtain ⟨t1, t2, t3⟩ := List.nodup_append.1 s2
      obtain ⟨t4, t5⟩ := List.nodup_cons.1 t2
      have hsu : Semi i (q' ++ [x]) := by
        unfold Semi; rw [List.dropLast_concat]
        exact List.nodup_cons.2 ⟨s1.1, t1⟩
      have hsv : Semi m (r ++ [l]) := by
        unfold Semi; rw [List.dropLast_concat]
        exact t2
      have hwv : Wk L m (r ++ [l]) k := by rw [← w3]; exact e4.snoc w2
      have b1 : mget o i m ≤ lenW (q' ++ [x]) := h.low i m _ hi hm e3 hsu (fun y hy => by
        rw [List.dropLast_concat] at hy
        have h1 := hp y (.inl hy)
        have h2 : y ≠ m := fun e => t3 y hy m (by simp) e
        omega)
      have b2 : mget o m k ≤ lenW (r ++ [l]) := h.low m k _ hm hk hwv hsv (fun y hy => by
        rw [List.dropLast_concat] at hy
        have h1 := hp y (.inr (.inr hy))
        have h2 : y ≠ m := fun e => t4 (e ▸ hy)
        omega)
      have b3 := hsu.lt hL hB0 hB hfar e3 hi
      have b4 := hsv.lt hL hB0 hB hfar hwv hm
      refine ⟨by omega, by omega, ?_⟩
      rw [List.append_assoc, lenW_append (q' ++ [x])]
      omega
    · left
      exact h.low i k p hi hk hw hs (fun y hy => by
        have h1 := hp y hy
        have h2 : y ≠ m := fun e => hmm (e ▸ hy)
        omega)
  unfold fwCell
  split
  · rename_i hc
    obtain ⟨g1, g2⟩ := h.put (v := min (mget o i k) (mget o i m + mget o m k)) hi hk (by omega) (fun hv => by
      by_cases hle : mget o i k ≤ mget o i m + mget o m k
      · rw [show min (mget o i k) (mget o i m + mget o m k) = mget o i k by omega] at hv ⊢
        exact h.real i k hi hk hv
      · rw [show min (mget o i k) (mget o i m + mget o m k) = mget o i m + mget o m k by omega]
        obtain ⟨p, p1, p2⟩ := h.real i m hi hm hc.1
        obtain ⟨q, q1, q2⟩ := h.real m k hm hk hc.2
        exact ⟨p ++ q, p1.append q1, by rw [lenW_append, p2, q2]⟩)
    refine ⟨g1, g2, fun p hw hs hp => ?_⟩
    rw [mget_mset h.len h.row hi hk, if_pos ⟨rfl, rfl⟩]
    rcases key p hw hs hp with h1 | ⟨_, _, h1⟩ <;> omega
  · rename_i hc
    refine ⟨h, fun _ _ => Int.le_refl _, fun p hw hs hp => ?_⟩
    rcases key p hw hs hp with h1 | ⟨h1, h2, _⟩
    · exact h1
    · exact absurd ⟨h1, h2⟩ hc
theorem row_fw (hL : ∀ l ∈ L, l.a < n ∧ l.b < n) (hB0 : 0 ≤ B) (hB : ∀ l ∈ L, -B ≤ l.m ∧ l.m ≤ B) (hfar : B * (n : Int) < far) {m i : Nat} (hm : m < n) (hi : i < n) : ∀ (c k : Nat) (o : Mx), k + c = n → FW L n o m →
    FW L n (fwRow m i c k o) m ∧ (∀ i' k', mget (fwRow m i c k o) i' k' ≤ mget o i' k') ∧ (∀ k', k ≤ k' → k' < n → ∀ p, Wk L i p k' → Semi i p → (∀ x ∈ p.dropLast.map (·.b), x < m + 1) → mget (fwRow m i c k o) i k' ≤ lenW p)
  | 0, k, o, hc, h => ⟨h, fun _ _ => Int.le_refl _, fun k' h1 h2 => by omega⟩
  | c + 1, k, o, hc, h => by
    obtain ⟨a1, a2, a3⟩ := cell_fw hL hB0 hB hfar h hm hi (k := k) (by omega)
    obtain ⟨b1, b2, b3⟩ := row_fw hL hB0 hB hfar hm hi c (k + 1) (fwCell m i k o) (by omega) a1
    refine ⟨b1, fun i' k' => Int.le_trans (b2 i' k') (a2 i' k'), fun k' h1 h2 p hw hs hp => ?_⟩
    by_cases he : k' = k
    · subst he; exact Int.le_trans (b2 _ _) (a3 p hw hs hp)
    · exact b3 k' (by omega) h2 p hw hs hp
theorem step_fw (hL : ∀ l ∈ L, l.a < n ∧ l.b < n) (hB0 : 0 ≤ B) (hB : ∀ l ∈ L, -B ≤ l.m ∧ l.m ≤ B) (hfar : B * (n : Int) < far) {m : Nat} (hm : m < n) : ∀ (c i : Nat) (o : Mx), i + c = n → FW L n o m →
    FW L n (fwStep m n c i o) m ∧ (∀ i' k', mget (fwStep m n c i o) i' k' ≤ mget o i' k') ∧ (∀ i', i ≤ i' → i' < n → ∀ k', k' < n → ∀ p, Wk L i' p k' → Semi i' p → (∀ x ∈ p.dropLast.map (·.b), x < m + 1) → mget (fwStep m n c i o) i' k' ≤ lenW p)
  | 0, i, o, hc, h => ⟨h, fun _ _ => Int.le_refl _, fun i' h1 h2 => by omega⟩
  | c + 1, i, o, hc, h => by
    obtain ⟨a1, a2, a3⟩ := row_fw hL hB0 hB hfar hm (i := i) (by omega) n 0 o (by omega) h
    obtain ⟨b1, b2, b3⟩ := step_fw hL hB0 hB hfar hm c (i + 1) (fwRow m i n 0 o) (by omega) a1
    refine ⟨b1, fun i' k' => Int.le_trans (b2 i' k') (a2 i' k'), fun i' h1 h2 k' h3 p hw hs hp => ?_⟩
    by_cases he : i' = i
    · subst he; exact Int.le_trans (b2 _ _) (a3 k' (Nat.zero_le _) h3 p hw hs hp)
    · exact b3 i' (by omega) h2 k' h3 p hw hs hp
theorem negD_true (o : Mx) : ∀ (c i : Nat), negD o c i = true → ∃ j, i ≤ j ∧ j < i + c ∧ mget o j j < 0
  | 0, i, h => by simp [negD] at h
  | c + 1, i, h => by
    simp only [negD, Bool.or_eq_true, decide_eq_true_eq] at h
    rcases h with h | h
    · exact ⟨i, by omega, by omega, h⟩
    · obtain ⟨j, h1, h2, h3⟩ := negD_true o c (i + 1) h
      exact ⟨j, by omega, by omega, h3⟩
theorem negD_false (o : Mx) : ∀ (c i : Nat), negD o c i = false → ∀ j, i ≤ j → j < i + c → 0 ≤ mget o j j
  | 0, i, h, j, h1, h2 => by omega
  | c + 1, i, h, j, h1, h2 => by
    simp only [negD, Bool.or_eq_false_iff, decide_eq_false_iff_not] at h
    by_cases he : j = i
    · subst he; omega
    · exact negD_false o c (i + 1) h.2 j (by omega) (by omega)
theorem loop_fw (hL : ∀ l ∈ L, l.a < n ∧ l.b < n) (hB0 : 0 ≤ B) (hB : ∀ l ∈ L, -B ≤ l.m ∧ l.m ≤ B) (hfar : B * (n : Int) < far) : ∀ (c m : Nat) (o : Mx), m + c = n → FW L n o m → (c = 0 → ∀ i, i < n → 0 ≤ mget o i i) →
    (∃ o', fwLoop n c m o = some o' ∧ FW L n o' n ∧ ∀ i, i < n → 0 ≤ mget o' i i) ∨ (fwLoop n c m o = none ∧ ¬ NoNeg L)
  | 0, m, o, hc, h, hd => by
    have e : m = n := by omega
    subst e
    exact .inl ⟨o, rfl, h, hd rfl⟩
  | c + 1, m, o, hc, h, hd => by
    obtain ⟨a1, a2, a3⟩ := step_fw hL hB0 hB hfar (m := m) (by omega) n 0 o (by omega) h
    have hf : FW L n (fwStep m n n 0 o) (m + 1) := ⟨a1.len, a1.row, a1.le, a1.real, fun i k p hi hk hw hs hp => a3 i (Nat.zero_le _) hi k hk p hw hs hp⟩
    unfold fwLoop
    by_cases hg : negD (fwStep m n n 0 o) n 0 = true
    · rw [if_pos hg]
      refine .inr ⟨rfl, fun hn => ?_⟩
      obtain ⟨j, h1, h2, h3⟩ := negD_true _ _ _ hg
      obtain ⟨p, p1, p2⟩ := hf.real j j (by omega) (by omega) (by have : (0 : Int) < far := by decide
                                                                  omega)
      have := hn j p p1
      omega
    · rw [if_neg hg]
      have hg' := negD_false _ _ _ (by simpa using hg)
      exact loop_fw hL hB0 hB hfar c (m + 1) _ (by omega) hf (fun _ i hi => hg' i (Nat.zero_le _) (by omega))
theorem fwInit_get {i k : Nat} (hi : i < n) (hk : k < n) : mget (fwInit n) i k = if i ≠ k then far else 0 := by
  unfold mget fwInit
  simp only [List.getD_eq_getElem?_getD, List.getElem?_map, List.getElem?_range hi, Option.map_some, Option.getD_some, List.getElem?_range hk]
theorem fwInit_row {i : Nat} (hi : i < n) : ((fwInit n).getD i []).length = n := by
  unfold fwInit
  simp only [List.getD_eq_getElem?_getD, List.getElem?_map, List.getElem?_range hi, Option.map_some, Option.getD_some, List.length_map, List.length_range]
structure FW0 (L : List Lk) (n : Nat) (P : Lk → Prop) (o : Mx) : Prop where
  len : o.length = n
  row : ∀ i, i < n → (o.getD i []).length = n
  le : ∀ i k, i < n → k < n → mget o i k ≤ far
  real : ∀ i k, i < n → k < n → mget o i k < far → ∃ p, Wk L i p k ∧ lenW p = mget o i k
  zero : ∀ i, i < n → mget o i i ≤ 0
  link : ∀ l, P l → mget o l.a l.b ≤ l.m
theorem links_fw (hL : ∀ l ∈ L, l.a < n ∧ l.b < n) : ∀ (R : List Lk) (P : Lk → Prop) (o : Mx), (∀ l ∈ R, l ∈ L) → FW0 L n P o → FW0 L n (fun l => P l ∨ l ∈ R) (fwLinks R o)
  | [], P, o, _, h => ⟨h.len, h.row, h.le, h.real, h.zero, fun l hl => h.link l (by simpa using hl)⟩
  | x :: R, P, o, hR, h => by
    obtain ⟨ha, hb⟩ := hL x (hR x (by simp))
    have hg := fun i' k' => mget_mset (v := min (mget o x.a x.b) x.m) (i' := i') (k' := k') h.len h.row ha hb
    have hmon : ∀ i' k', mget (fwLink o x) i' k' ≤ mget o i' k' := fun i' k' => by
      unfold fwLink; rw [hg]
      split
      · rename_i e; obtain ⟨rfl, rfl⟩ := e; omega
      · exact Int.le_refl _
    have h1 : FW0 L n (fun l => P l ∨ l = x) (fwLink o x) := by
      refine ⟨by simp [fwLink, mset, h.len], fun j hj => mset_row h.len h.row ha hj, fun a b p q => Int.le_trans (hmon a b) (h.le a b p q), fun a b p q hf => ?_, fun i hi => Int.le_trans (hmon i i) (h.zero i hi), fun l hl => ?_⟩
      · unfold fwLink at hf ⊢
        rw [hg] at hf ⊢
        split
        · rename_i e; obtain ⟨rfl, rfl⟩ := e
          rw [if_pos ⟨rfl, rfl⟩] at hf
          by_cases hle : mget o x.a x.b ≤ x.m
          · rw [show min (mget o x.a x.b) x.m = mget o x.a x.b by omega] at hf ⊢
            exact h.real _ _ p q hf
          · rw [show min (mget o x.a x.b) x.m = x.m by omega]
            exact ⟨[x], ⟨hR x (by simp), rfl, rfl⟩, by simp [lenW]⟩
        · rename_i e
          rw [if_neg e] at hf
          exact h.real _ _ p q hf
      · rcases hl with hl | rfl
        · exact Int.le_trans (hmon _ _) (h.link l hl)
        · unfold fwLink; rw [hg, if_pos ⟨rfl, rfl⟩]; omega
    have h2 := links_fw hL R _ _ (fun l hl => hR l (by simp [hl])) h1
    exact ⟨h2.len, h2.row, h2.le, h2.real, h2.zero, fun l hl => h2.link l (by
      rcases hl with hl | hl
      · exact .inl (.inl hl)
      · rcases List.mem_cons.1 hl with rfl | hl
        · exact .inl (.inr rfl)
        · exact .inr hl)⟩
theorem start_fw (hL : ∀ l ∈ L, l.a < n ∧ l.b < n) : FW L n (fwLinks L (fwInit n)) 0 := by
  have h0 : FW0 L n (fun _ => False) (fwInit n) := by
    refine ⟨by simp [fwInit], fun i hi => fwInit_row hi, fun i k hi hk => ?_, fun i k hi hk hf => ?_, fun i hi => ?_, fun _ h => h.elim⟩
    · rw [fwInit_get hi hk]; split <;> decide
    · rw [fwInit_get hi hk] at hf ⊢
      split at hf
      · exact absurd hf (by decide)
      · rename_i e
        have e' : i = k := by omega
        rw [if_neg e]; exact ⟨[], e', rfl⟩
    · rw [fwInit_get hi hi, if_neg (by simp)]; exact Int.le_refl _
  have h1 := links_fw hL L _ _ (fun _ h => h) h0
  refine ⟨h1.len, h1.row, h1.le, h1.real, fun i k p hi hk hw hs hp => ?_⟩
  match p, hw, hp with
  | [], hw, _ => simp only [Wk] at hw; subst hw; simpa [lenW] using h1.zero i hi
  | [l], hw, _ =>
    obtain ⟨w1, w2, w3⟩ := hw
    simp only [Wk] at w3
    subst w2; subst w3
    simpa [lenW] using h1.link l (.inr w1)
  | l :: x :: r, hw, hp => exact absurd (hp l.b (by simp)) (by omega)
theorem closure_case (hL : ∀ l ∈ L, l.a < n ∧ l.b < n) (hB0 : 0 ≤ B) (hB : ∀ l ∈ L, -B ≤ l.m ∧ l.m ≤ B) (hfar : B * (n : Int) < far) :
    (∃ o, closureF n L = some o ∧ NoNeg L ∧ o.length = n ∧ (∀ i, i < n → (o.getD i []).length = n) ∧ ∀ i, i < n → Dist L n (SrcF n i) far (fun k => mget o i k)) ∨ (closureF n L = none ∧ ¬ NoNeg L) := by
  have h0 := start_fw (n := n) hL
  rcases loop_fw hL hB0 hB hfar n 0 _ (by omega) h0 (fun hz i hi => by omega) with ⟨o, h1, h2, h3⟩ | h
  · have hn : NoNeg L := NoNeg.of_semi fun i p hw hs => by
      by_cases hi : i < n
      · have h4 := h2.low i i p hi hi hw hs (fun x hx => by
          obtain ⟨l, hl, rfl⟩ := List.mem_map.1 hx
          exact (hL l (hw.mem l ((List.dropLast_sublist _).subset hl))).2)
        have := h3 i hi
        omega
      · cases p with
        | nil => simp [lenW]
        | cons l p => have := hL l hw.1; have := hw.2.1; omega
    refine .inl ⟨o, h1, hn, h2.len, h2.row, fun i hi => ⟨fun k hk => h2.le i k hi hk, fun k hk hf => ?_, fun s p k hs hw => ?_⟩⟩
    · obtain ⟨p, p1, p2⟩ := h2.real i k hi hk hf
      exact ⟨i, p, ⟨hi, .inr rfl⟩, p1, p2⟩
    · have hsi : s = i := by have := hs.2; omega
      subst hsi
      obtain ⟨q, q1, q2, q3⟩ := hn.short hw
      have hk : k < n := by
        cases q with
        | nil => simp only [Wk] at q1; omega
        | cons x r =>
          obtain ⟨u, l, e⟩ : ∃ u l, x :: r = u ++ [l] := ⟨(x :: r).dropLast, (x :: r).getLast (by simp), (List.dropLast_concat_getLast _).symm⟩
          rw [e] at q1
          obtain ⟨_, w2, w3⟩ := q1.unsnoc
          rw [← w3]; exact (hL l w2).2
      have := h2.low s k q hi hk q1 q3.semi (fun x hx => by
        obtain ⟨l, hl, rfl⟩ := List.mem_map.1 hx
        exact (hL l (q1.mem l ((List.dropLast_sublist _).subset hl))).2)
      omega
  · exact .inr h
theorem both_ways (hL : ∀ l ∈ L, l.a < n ∧ l.b < n) (hB0 : 0 ≤ B) (hB : ∀ l ∈ L, -B ≤ l.m ∧ l.m ≤ B) (hfar : B * (n : Int) < far) :
    (∃ o, closureF n L = some o ∧ (lengthsF n L (-1)).2.2 < 0 ∧ o.length = n ∧ ∀ i, i < n → (lengthsF n L i).1 = o.getD i []) ∨ (closureF n L = none ∧ ¬ (lengthsF n L (-1)).2.2 < 0) := by
  rcases closure_case hL hB0 hB hfar with ⟨o, h1, h2, h3, h4, h5⟩ | ⟨h1, h2⟩
  · refine .inl ⟨o, h1, (lengths_noNeg hL hB0 hB hfar).2 h2, h3, fun i hi => ?_⟩
    have hd := lengths_dist hL hB0 hB hfar h2 (i : Int)
    have hl := lengths_len hL hB0 hB hfar h2 (i : Int)
    apply List.ext_getElem?
    intro k
    by_cases hk : k < n
    · have h6 := hd.unique (h5 i hi) k hk
      unfold mget at h6
      simp only [List.getD_eq_getElem?_getD] at h6
      have h4' := h4 i hi
      rw [List.getD_eq_getElem?_getD] at h4' ⊢
      rw [List.getElem?_eq_getElem (by omega), List.getElem?_eq_getElem (by omega)] at h6 ⊢
      simpa using h6
    · rw [List.getElem?_eq_none (by omega), List.getElem?_eq_none (by rw [h4 i hi]; omega)]
  · exact .inr ⟨h1, fun h => h2 ((lengths_noNeg hL hB0 hB hfar).1 h)⟩
end
end Go.Proofs.Ks

namespace Go.Proofs.Ks
open Go Go.Pg Go.Proofs
noncomputable def cx : Cx := { P := Try.prog, T := T, eqT := eqT, E := fun _ => True }
instance : Cx.Wide cx := ⟨rfl⟩
theorem cx_ok : cx.OK := ⟨T_ok, eqT_ok, fun _ _ _ _ => trivial⟩
theorem cx_mixed : cx.P.follows .mixedOrders = true := rfl
abbrev ai (n : Int) : AV := .v (.int .i64 n)
abbrev ab (b : Bool) : AV := .v (.bool b)
structure Span where
  lo : Int
  hi : Int
  deriving DecidableEq, Inhabited
structure Stop where
  pos : Int
  secs : Span
  deriving DecidableEq, Inhabited
structure Session where
  id : Int
  inn : Span
  out : Span
  zero : Span
  fin : Span
  rate : Span
  stops : List Stop
  deriving DecidableEq, Inhabited
structure Strike where
  id : Int
  pos : Span
  deriving DecidableEq, Inhabited
structure Sight where
  strike : Int
  seen : Span
  deriving DecidableEq, Inhabited
structure Rec where
  s : Session
  strikes : List Strike
  sights : List Sight
  deriving DecidableEq, Inhabited
structure Node where
  kind : Int
  num : Int
  deriving DecidableEq, Inhabited
structure Leg where
  secs : Int
  rate : Int
  deriving DecidableEq, Inhabited
structure Run where
  start : Int
  micro : Int
  legs : List Leg
  deriving DecidableEq, Inhabited
abbrev eSpan (s : Span) : List AV := [ai s.lo, ai s.hi]
abbrev lSpan (l : List Span) : AV := .lst (l.map eSpan)
abbrev eStop (s : Stop) : List AV := [ai s.pos, ai s.secs.lo, ai s.secs.hi]
abbrev lStop (l : List Stop) : AV := .lst (l.map eStop)
abbrev eSession (s : Session) : List AV := [ai s.id, ai s.inn.lo, ai s.inn.hi, ai s.out.lo, ai s.out.hi, ai s.zero.lo, ai s.zero.hi, ai s.fin.lo, ai s.fin.hi, ai s.rate.lo, ai s.rate.hi, lStop s.stops]
abbrev eStrike (s : Strike) : List AV := [ai s.id, ai s.pos.lo, ai s.pos.hi]
abbrev lStrike (l : List Strike) : AV := .lst (l.map eStrike)
abbrev eSight (s : Sight) : List AV := [ai s.strike, ai s.seen.lo, ai s.seen.hi]
abbrev lSight (l : List Sight) : AV := .lst (l.map eSight)
abbrev eRec (r : Rec) : List AV := [ai r.s.id, ai r.s.inn.lo, ai r.s.inn.hi, ai r.s.out.lo, ai r.s.out.hi, ai r.s.zero.lo, ai r.s.zero.hi, ai r.s.fin.lo, ai r.s.fin.hi, ai r.s.rate.lo, ai r.s.rate.hi, lStop r.s.stops, lStrike r.strikes, lSight r.sights]
abbrev eNode (n : Node) : List AV := [ai n.kind, ai n.num]
abbrev lNode (l : List Node) : AV := .lst (l.map eNode)
abbrev eLink (l : Lk) : List AV := [ai l.a, ai l.b, ai l.m]
abbrev lLink (l : List Lk) : AV := .lst (l.map eLink)
abbrev eInt (n : Int) : List AV := [ai n]
abbrev lInt (l : List Int) : AV := .lst (l.map eInt)
abbrev eLeg (l : Leg) : List AV := [ai l.secs, ai l.rate]
abbrev lLeg (l : List Leg) : AV := .lst (l.map eLeg)
abbrev eRun (r : Run) : List AV := [ai r.start, ai r.micro, lLeg r.legs]
theorem wrapN {n : Int} (h : -9223372036854775808 ≤ n ∧ n < 9223372036854775808) : IntKind.wrap .i64 n = n := by
  have e : IntKind.wrap .i64 n = if n % 18446744073709551616 ≥ 9223372036854775808 then n % 18446744073709551616 - 18446744073709551616 else n % 18446744073709551616 := by
    simp [IntKind.wrap, IntKind.signed, IntKind.bits]
  rw [e]; split <;> omega
theorem tdivN {a b : Int} (h : 0 ≤ a) : a.tdiv b = a / b := Int.tdiv_eq_ediv_of_nonneg h
theorem tmodN {a b : Int} (h : 0 ≤ a) : a.tmod b = a % b := Int.tmod_eq_emod_of_nonneg h
theorem maxN {a b : Int} : (if b > a then b else a) = max a b := by rw [Int.max_def]; split <;> split <;> omega
theorem minN {a b : Int} : (if b < a then b else a) = min a b := by rw [Int.min_def]; split <;> split <;> omega
theorem drop_cons {α β : Type} {l : List α} {k : Nat} {x : α} {rest : List α} (h : l.drop k = x :: rest) (e : α → β) (d : β) :
    ((k : Int) < (l.length : Int)) ∧ (l.map e).getD k d = e x ∧ l.drop (k + 1) = rest ∧ rest.length + k + 1 = l.length ∧ x ∈ l ∧ (l.map e)[k]? = some (e x) := by
  have hlt : k < l.length := by
    rcases Nat.lt_or_ge k l.length with h' | h'
    · exact h'
    · rw [List.drop_eq_nil_of_le h'] at h; cases h
  have h0 : l[k]? = some x := by
    have := congrArg (fun m => m[0]?) h
    simpa using this
  refine ⟨by omega, ?_, ?_, ?_, List.mem_of_getElem? h0, by rw [List.getElem?_map, h0]; rfl⟩
  · rw [List.getD_eq_getElem?_getD, List.getElem?_map, h0]; rfl
  · have : l.drop (k + 1) = (l.drop k).drop 1 := by simp
    rw [this, h]; rfl
  · have := congrArg List.length h
    simp at this; omega
theorem drop_nil {α : Type} {l : List α} {k : Nat} (h : l.drop k = []) : ¬ ((k : Int) < (l.length : Int)) := by
  have := List.drop_eq_nil_iff.1 h
  omega
theorem getD_map {α β : Type} (e : α → β) (l : List α) (k : Nat) (d : β) (d' : α) (h : k < l.length) : (l.map e).getD k d = e (l.getD k d') := by
  rw [List.getD_eq_getElem?_getD, List.getElem?_map, List.getElem?_eq_getElem h, List.getD_eq_getElem?_getD, List.getElem?_eq_getElem h]; rfl
theorem get_map {α β : Type} (e : α → β) (l : List α) (k : Nat) (d' : α) (h : k < l.length) : (l.map e)[k]? = some (e (l.getD k d')) := by
  rw [List.getElem?_map, List.getElem?_eq_getElem h, List.getD_eq_getElem?_getD, List.getElem?_eq_getElem h]; rfl
theorem pure_map {α : Type} {e : α → List AV} (h : ∀ x, pureL (e x) = true) (l : List α) : (l.map e).all pureL = true := by
  rw [List.all_eq_true]
  intro x hx
  obtain ⟨y, _, rfl⟩ := List.mem_map.1 hx
  exact h y
attribute [push_cast] cx T eqT wrapN tdivN tmodN maxN minN
abbrev jA := @AW.seq
abbrev jB := @AW.region
abbrev jC := @AW.ret
abbrev jD := @AW.block
abbrev jE := @AW.skip
abbrev jF := @AW.exit
abbrev jG := @AW.scope
abbrev jH := @AW.label
abbrev jI := @AWL.nil
abbrev jJ := @D.nil
abbrev jK := @W.step
abbrev jL := @D.step
abbrev jM := @W.store
abbrev jN := @W.gS
abbrev jO := @D.gS
abbrev jP := @W.gU
abbrev jQ := @D.gU
abbrev jR := @AW.cond
abbrev jS := @W.mapUpdate
abbrev jT := @W.append
abbrev jU := @D.append
abbrev jV := @W.callv
abbrev jW := @D.callv
abbrev jX := @D.callvt
abbrev jY := @D.alloct
abbrev jZ := @D.alloc
abbrev ja := @D.store
abbrev jb := @D.stept
abbrev jc := @D.stepm
abbrev jf := @W.ret1
abbrev jg := @W.end1
abbrev jh := @W.ret2
abbrev ji := @W.end2
abbrev jj := @W.ret3
abbrev jk := @W.end3
abbrev jl := @W.retM
abbrev jm := @W.endM'
end Go.Proofs.Ks

set_option maxHeartbeats 8000000
set_option maxRecDepth 10000
namespace Go.Proofs.Ks
open Go Go.Pg Go.Proofs
def inB (x : Span) (lo hi : Int) : Bool := decide (lo ≤ x.lo) && decide (x.lo ≤ x.hi) && decide (x.hi ≤ hi)
theorem inB_iff {x : Span} {lo hi : Int} : inB x lo hi = true ↔ lo ≤ x.lo ∧ x.lo ≤ x.hi ∧ x.hi ≤ hi := by unfold inB; simp [and_assoc]
theorem within_ok (x : Span) (lo hi : Int) : OKv cx 93 [.agg (eSpan x), ai lo, ai hi] (ab (inB x lo hi)) := by
  unfold inB
  refine OKat.of_body (rs := [6]) Try.func93 rfl (by decide +kernel) rfl (by simp [Try.ntmps93]) ?_
  simp only [Try.ntmps93]
  repeat' first
    | apply jA | apply jB | apply jC | apply jD | apply jE | apply jF | apply jG | apply jH | apply jI
    | ((first | (apply jK cx_ok; decide) | (apply jN; rfl; decide) | apply jR); (simp (disch := omega) only [push_cast, simprocAttr] <;> rfl); all_goals try ((with_reducible intro hI); try first | (cases hI; done) | (simp only [INTS, zL] at hI; try first | (exfalso; omega) | (have hT : True := hI; clear hT hI))))
    | ((first | apply jf | apply jg); (iterate 2 (try (simp (disch := omega) only [push_cast, simprocAttr] <;> rfl))))
  all_goals (show _ = _; first | rfl | (simp [*]; done) | (simp; omega) | (simp_all; omega))
theorem rspan_ok (x : Span) (lo hi : Int) : OKv cx 78 [.agg (eSpan x), ai lo, ai hi] (ab (inB x lo hi)) := by
  unfold inB
  refine OKat.of_body (rs := [6]) Try.func78 rfl (by decide +kernel) rfl (by simp [Try.ntmps78]) ?_
  simp only [Try.ntmps78]
  repeat' first
    | apply jA | apply jB | apply jC | apply jD | apply jE | apply jF | apply jG | apply jH | apply jI
    | ((first | (apply jK cx_ok; decide) | (apply jN; rfl; decide) | apply jR); (simp (disch := omega) only [push_cast, simprocAttr] <;> rfl); all_goals try ((with_reducible intro hI); try first | (cases hI; done) | (simp only [INTS, zL] at hI; try first | (exfalso; omega) | (have hT : True := hI; clear hT hI))))
    | ((first | apply jf | apply jg); (iterate 2 (try (simp (disch := omega) only [push_cast, simprocAttr] <;> rfl))))
  all_goals (show _ = _; first | rfl | (simp [*]; done) | (simp; omega) | (simp_all; omega))
theorem strikeN_ok (r : Rec) (n : Int) (hl : r.strikes.length ≤ 1099511627776) : OKv cx 80 [.agg (eRec r), ai n] (ab (decide (0 ≤ n) && decide (n < (r.strikes.length : Int)))) := by
  refine OKat.of_body (rs := [4]) Try.func80 rfl (by decide +kernel) rfl (by simp [Try.ntmps80]) ?_
  simp only [Try.ntmps80]
  repeat' first
    | apply jA | apply jB | apply jC | apply jD | apply jE | apply jF | apply jG | apply jH | apply jI
    | ((first | (apply jK cx_ok; decide) | (apply jN; rfl; decide) | apply jR); (simp (disch := omega) only [push_cast, simprocAttr] <;> rfl); all_goals try ((with_reducible intro hI); try first | (cases hI; done) | (simp only [INTS, zL] at hI; try first | (exfalso; omega) | (have hT : True := hI; clear hT hI))))
    | ((first | apply jf | apply jg); (iterate 2 (try (simp (disch := omega) only [push_cast, simprocAttr] <;> rfl))))
  all_goals (show _ = _; first | rfl | (simp [*]; done) | (simp; omega) | (simp_all; omega))
def smallB (r : Rec) : Bool := decide ((r.s.stops.length : Int) ≤ 12) && decide ((r.strikes.length : Int) ≤ 20) && decide ((r.sights.length : Int) ≤ 20)
theorem small_ok (r : Rec) : OKv cx 19 [.agg (eRec r)] (ab (smallB r)) := by
  unfold smallB
  refine OKat.of_body (rs := [2]) Try.func19 rfl (by decide +kernel) rfl (by simp [Try.ntmps19]) ?_
  simp only [Try.ntmps19]
  repeat' first
    | apply jA | apply jB | apply jC | apply jD | apply jE | apply jF | apply jG | apply jH | apply jI
    | ((first | (apply jK cx_ok; decide) | (apply jN; rfl; decide) | apply jR); (simp (disch := omega) only [push_cast, simprocAttr] <;> rfl); all_goals try ((with_reducible intro hI); try first | (cases hI; done) | (simp only [INTS, zL] at hI; try first | (exfalso; omega) | (have hT : True := hI; clear hT hI))))
    | ((first | apply jf | apply jg); (iterate 2 (try (simp (disch := omega) only [push_cast, simprocAttr] <;> rfl))))
  all_goals (show _ = _; first | rfl | (simp [*]; done) | (simp; omega) | (simp_all; omega))
end Go.Proofs.Ks
