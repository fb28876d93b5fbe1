/-
  Contracts of functions, proved by going through their code. No conditions.
-/
import Derived.Test.YtmcchoalekmklaaGreatZad
set_option linter.unusedVariables false
set_option linter.unusedSimpArgs false
namespace Go.Pg
section
variable {α β : Type}
theorem zA {i : Nat} {l : List α} : (l.take i).length = min i l.length := List.length_take
theorem zB {i : Nat} {l : List α} : (l.drop i).length = l.length - i := List.length_drop
theorem zC : ([] : List α).length = 0 := rfl
theorem zD {a : α} {l : List α} : (a :: l).length = l.length + 1 := rfl
theorem zE {l m : List α} : (l ++ m).length = l.length + m.length := List.length_append
theorem zG {a : α} : ¬ a ∈ ([] : List α) := List.not_mem_nil
theorem zH {i : Nat} {l : List α} (h : l.length ≤ i) : l.take i = l := List.take_of_length_le h
theorem zI {a b : α} {l : List α} : a ∈ b :: l ↔ a = b ∨ a ∈ l := List.mem_cons
theorem zJ (a b c : Nat) : a + b + c = a + (b + c) := Nat.add_assoc a b c
theorem zK {l : List α} : l.take l.length = l := List.take_length
theorem zL : (¬ True) = False := not_true_eq_false
theorem zM : (false = true) = False := Bool.false_eq_true
theorem zN {p : α → Bool} {l m : List α} : (l ++ m).all p = (l.all p && m.all p) := List.all_append
theorem zO (b : Bool) : (b && true) = b := Bool.and_true b
theorem zP (b : Bool) : (b && b) = b := Bool.and_self b
theorem zQ {p : α → Bool} {a : α} {l : List α} : (a :: l).all p = (p a && l.all p) := rfl
theorem zR {p : α → Bool} : ([] : List α).all p = true := rfl
theorem zS (p : Prop) : (p ∧ True) = p := and_true p
theorem zT (p : Prop) : (p ∧ p) = p := and_self p
theorem zU (p : Prop) : (True ∧ p) = p := true_and p
theorem zV {a : α} {l : List α} : (a :: l).isEmpty = false := rfl
theorem zW {f : α → β} : ([] : List α).map f = [] := rfl
theorem zX {f : α → β} {a : α} {l : List α} : (a :: l).map f = f a :: l.map f := rfl
theorem zY {f : α → β} {l m : List α} : (l ++ m).map f = l.map f ++ m.map f := List.map_append
theorem zZ (l : List α) : l ++ [] = l := List.append_nil l
theorem yA (l : List α) : [] ++ l = l := rfl
theorem yB {a : α} {l m : List α} : (a :: l) ++ m = a :: (l ++ m) := rfl
theorem yC (a b : Nat) : ((a + b : Nat) : Int) = (a : Int) + (b : Int) := Int.natCast_add a b
theorem yD (a : Int) : 0 - a = -a := Int.zero_sub a
end
theorem vC : (∀ (α : Type) (l m : List α), (l ++ m).length = l.length + m.length) ∧ (∀ (α β : Type) (f : α → β) (l : List α), (l.map f).length = l.length) ∧ (∀ (α : Type) (a : α) (l : List α), (a :: l).length = l.length + 1) ∧ (∀ α : Type, ([] : List α).length = 0) ∧ (∀ (α : Type) (i : Nat) (l : List α), (l.take i).length = min i l.length) ∧ (∀ (α : Type) (i : Nat) (l : List α), (l.drop i).length = l.length - i) :=
  ⟨fun _ _ _ => List.length_append, fun _ _ f _ => List.length_map f, fun _ _ _ => rfl, fun _ => rfl, fun _ _ _ => List.length_take, fun _ _ _ => List.length_drop⟩
section
variable {α : Type}
theorem kA {β : Type} {f : α → β} {a : α} : (some a).map f = some (f a) := rfl
end
end Go.Pg

namespace Go.Proofs.Ks
structure Lk where
  a : Nat
  b : Nat
  m : Int
  deriving DecidableEq, Inhabited
def lenW : List Lk → Int
  | [] => 0
  | l :: r => l.m + lenW r
def Wk (L : List Lk) : Nat → List Lk → Nat → Prop
  | i, [], k => i = k
  | i, l :: r, k => l ∈ L ∧ l.a = i ∧ Wk L l.b r k
theorem lenW_append : ∀ (p q : List Lk), lenW (p ++ q) = lenW p + lenW q
  | [], q => by simp [lenW]
  | l :: p, q => by simp only [List.cons_append, lenW, lenW_append p q]; omega
theorem Wk.append {L : List Lk} : ∀ {p q : List Lk} {i j k : Nat}, Wk L i p j → Wk L j q k → Wk L i (p ++ q) k
  | [], q, i, j, k, h, g => by simp only [Wk] at h; subst h; exact g
  | l :: p, q, i, j, k, h, g => ⟨h.1, h.2.1, Wk.append h.2.2 g⟩
theorem Wk.snoc {L : List Lk} {p : List Lk} {i : Nat} {l : Lk} (h : Wk L i p l.a) (hl : l ∈ L) : Wk L i (p ++ [l]) l.b := h.append ⟨hl, rfl, rfl⟩
theorem Wk.unsnoc {L : List Lk} : ∀ {p : List Lk} {i k : Nat} {l : Lk}, Wk L i (p ++ [l]) k → Wk L i p l.a ∧ l ∈ L ∧ l.b = k
  | [], i, k, l, h => ⟨h.2.1.symm, h.1, h.2.2⟩
  | x :: p, i, k, l, h => by
    obtain ⟨h1, h2, h3⟩ := Wk.unsnoc (p := p) h.2.2
    exact ⟨⟨h.1, h.2.1, h1⟩, h2, h3⟩
theorem Wk.split {L : List Lk} : ∀ {p : List Lk} {i k j : Nat}, Wk L i p k → j ∈ p.map (·.b) → ∃ q r, p = q ++ r ∧ q ≠ [] ∧ Wk L i q j ∧ Wk L j r k
  | [], i, k, j, h, hj => by simp at hj
  | l :: p, i, k, j, h, hj => by
    simp only [List.map_cons, List.mem_cons] at hj
    by_cases he : l.b = j
    · exact ⟨[l], p, rfl, by simp, ⟨h.1, h.2.1, he⟩, he ▸ h.2.2⟩
    · rcases hj with hj | hj
      · exact absurd hj.symm he
      · obtain ⟨q, r, h1, h2, h3, h4⟩ := Wk.split h.2.2 hj
        exact ⟨l :: q, r, by rw [h1]; rfl, by simp, ⟨h.1, h.2.1, h3⟩, h4⟩
theorem Wk.mem {L : List Lk} : ∀ {p : List Lk} {i k : Nat}, Wk L i p k → ∀ l ∈ p, l ∈ L
  | [], _, _, _, l, hl => by simp at hl
  | x :: p, i, k, h, l, hl => by
    rcases List.mem_cons.1 hl with rfl | hl
    · exact h.1
    · exact Wk.mem h.2.2 l hl
def NoNeg (L : List Lk) : Prop := ∀ i p, Wk L i p i → 0 ≤ lenW p
def Simple (i : Nat) (p : List Lk) : Prop := (i :: p.map (·.b)).Nodup
theorem Simple.suffix {i j : Nat} {p q r : List Lk} {L : List Lk} (h : Simple i p) (hp : p = q ++ r) (hq : q ≠ []) (hw : Wk L i q j) : Simple j r := by
  obtain ⟨s, l, rfl⟩ : ∃ s l, q = s ++ [l] := ⟨q.dropLast, q.getLast hq, (List.dropLast_concat_getLast hq).symm⟩
  obtain ⟨_, _, h3⟩ := hw.unsnoc
  subst hp
  subst h3
  unfold Simple at h ⊢
  simp only [List.map_append, List.map_cons, List.append_assoc, List.cons_append, List.nil_append] at h
  exact (List.nodup_append.1 (List.nodup_cons.1 h).2).2.1
theorem NoNeg.short {L : List Lk} (hn : NoNeg L) : ∀ {p : List Lk} {i k : Nat}, Wk L i p k → ∃ q, Wk L i q k ∧ lenW q ≤ lenW p ∧ Simple i q
  | [], i, k, h => ⟨[], h, Int.le_refl _, by simp [Simple]⟩
  | l :: p, i, k, h => by
    obtain ⟨q, h1, h2, h3⟩ := hn.short h.2.2
    by_cases hi : i ∈ l.b :: q.map (·.b)
    · have hw : Wk L i (l :: q) k := ⟨h.1, h.2.1, h1⟩
      obtain ⟨u, r, e1, e2, e3, e4⟩ := hw.split (j := i) hi
      have h4 := hn i u e3
      have h5 : lenW (l :: q) = lenW u + lenW r := by rw [e1, lenW_append]
      refine ⟨r, e4, ?_, ?_⟩
      · simp only [lenW] at h5 ⊢; omega
      · cases u with
        | nil => exact absurd rfl e2
        | cons x u =>
          simp only [List.cons_append, List.cons.injEq] at e1
          obtain ⟨rfl, e1⟩ := e1
          by_cases hu : u = []
          · subst hu
            have := e3.2.2
            simp only [Wk] at this
            rw [List.nil_append] at e1
            rw [← this, ← e1]; exact h3
          · exact h3.suffix e1 hu e3.2.2
    · exact ⟨l :: q, ⟨h.1, h.2.1, h1⟩, by simp only [lenW]; omega, by unfold Simple; exact List.nodup_cons.2 ⟨hi, h3⟩⟩
theorem pigeon : ∀ (n : Nat) (l : List Nat), (∀ x ∈ l, x < n) → l.Nodup → l.length ≤ n
  | 0, l, h, _ => by
    cases l with
    | nil => simp
    | cons x l => exact absurd (h x (by simp)) (by omega)
  | n + 1, l, h, hd => by
    by_cases hn : n ∈ l
    · have h1 := pigeon n (l.erase n) (fun x hx => by
        have h2 := h x (List.mem_of_mem_erase hx)
        have h3 : x ≠ n := fun e => by subst e; exact (List.Nodup.not_mem_erase hd) hx
        omega) (hd.erase n)
      rw [List.length_erase_of_mem hn] at h1
      omega
    · have h1 := pigeon n l (fun x hx => by
        have h2 := h x hx
        have h3 : x ≠ n := fun e => hn (e ▸ hx)
        omega) hd
      omega
theorem Simple.len {L : List Lk} {n i k : Nat} {p : List Lk} (h : Simple i p) (hw : Wk L i p k) (hL : ∀ l ∈ L, l.a < n ∧ l.b < n) (hi : i < n) : p.length + 1 ≤ n := by
  have h1 := pigeon n _ (fun x hx => ?_) h
  · simpa using h1
  · rcases List.mem_cons.1 hx with rfl | hx
    · exact hi
    · obtain ⟨l, hl, rfl⟩ := List.mem_map.1 hx
      exact (hL l (hw.mem l hl)).2
theorem lenW_bound {B : Int} : ∀ (p : List Lk), (∀ l ∈ p, -B ≤ l.m ∧ l.m ≤ B) → -(B * p.length) ≤ lenW p ∧ lenW p ≤ B * p.length
  | [], _ => by simp [lenW]
  | l :: p, h => by
    have h1 := lenW_bound p (fun x hx => h x (by simp [hx]))
    have h2 := h l (by simp)
    simp only [lenW, List.length_cons]
    have h3 : B * ((p.length + 1 : Nat) : Int) = B * (p.length : Int) + B := by rw [Int.natCast_add, Int.mul_add]; simp
    omega
theorem Wk.pot {L : List Lk} {f : Nat → Int} (hf : ∀ l ∈ L, f l.b ≤ f l.a + l.m) : ∀ {p : List Lk} {i k : Nat}, Wk L i p k → f k ≤ f i + lenW p
  | [], i, k, h => by simp only [Wk] at h; subst h; simp [lenW]
  | l :: p, i, k, h => by
    have h1 := Wk.pot hf h.2.2
    have h2 := hf l h.1
    rw [h.2.1] at h2
    simp only [lenW]; omega
theorem NoNeg.of_pot {L : List Lk} {f : Nat → Int} (hf : ∀ l ∈ L, f l.b ≤ f l.a + l.m) : NoNeg L := fun i p h => by have := h.pot hf; omega
structure Dist (L : List Lk) (n : Nat) (Src : Nat → Prop) (inf : Int) (d : Nat → Int) : Prop where
  le : ∀ k, k < n → d k ≤ inf
  real : ∀ k, k < n → d k < inf → ∃ s p, Src s ∧ Wk L s p k ∧ lenW p = d k
  low : ∀ s p k, Src s → Wk L s p k → d k ≤ lenW p
end Go.Proofs.Ks

namespace Go.Proofs.Ks
def far : Int := 1125899906842624
abbrev BS := List Int × List Int × Int
def Imp (d : List Int) (l : Lk) : Prop := d.getD l.a 0 < far ∧ d.getD l.a 0 + l.m < d.getD l.b 0
instance (d : List Int) (l : Lk) : Decidable (Imp d l) := inferInstanceAs (Decidable (_ ∧ _))
def relax (p : BS) (k : Nat) (l : Lk) : BS :=
  if Imp p.1 l then (p.1.set l.b (p.1.getD l.a 0 + l.m), p.2.1.set l.b (k : Int), (l.b : Int)) else p
def roundF : List Lk → Nat → BS → BS
  | [], _, p => p
  | l :: r, k, p => roundF r (k + 1) (relax p k l)
def lastF : List Lk → Nat → List Int → List Int → BS
  | [], _, d, b => (d, b, -1)
  | l :: r, k, d, b => if Imp d l then (d, b.set l.b (k : Int), (l.b : Int)) else lastF r (k + 1) d b
def loopF (L : List Lk) : Nat → List Int → List Int → BS
  | 0, d, b => lastF L 0 d b
  | n + 1, d, b => if (roundF L 0 (d, b, -1)).2.2 < 0 then ((roundF L 0 (d, b, -1)).1, (roundF L 0 (d, b, -1)).2.1, -1) else loopF L n (roundF L 0 (d, b, -1)).1 (roundF L 0 (d, b, -1)).2.1
def initF (n : Nat) (f : Int) : List Int := (List.range n).map fun (i : Nat) => if 0 ≤ f ∧ (i : Int) ≠ f then far else 0
def lengthsF (n : Nat) (L : List Lk) (f : Int) : BS := loopF L n (initF n f) (List.replicate n (-1))
structure Good (L : List Lk) (n : Nat) (Src : Nat → Prop) (d : List Int) (r : Nat) : Prop where
  len : d.length = n
  le : ∀ k, k < n → d.getD k 0 ≤ far
  real : ∀ k, k < n → d.getD k 0 < far → ∃ s p, Src s ∧ Wk L s p k ∧ lenW p = d.getD k 0
  low : ∀ s p k, Src s → Wk L s p k → p.length ≤ r → d.getD k 0 ≤ lenW p
theorem getD_set {d : List Int} {i j : Nat} {x : Int} (h : i < d.length) : (d.set i x).getD j 0 = if i = j then x else d.getD j 0 := by
  rw [List.getD_eq_getElem?_getD, List.getElem?_set, List.getD_eq_getElem?_getD]
  split
  · rename_i e; subst e; simp [h]
  · rfl
section
variable {L : List Lk} {n : Nat} {Src : Nat → Prop} {B : Int}
theorem relax_good (hL : ∀ l ∈ L, l.a < n ∧ l.b < n) (hB0 : 0 ≤ B) (hB : ∀ l ∈ L, -B ≤ l.m ∧ l.m ≤ B) (hfar : B * (n : Int) < far) {p : BS} {r : Nat} (hr : r ≤ n) (hg : Good L n Src p.1 r) (k : Nat) {l : Lk} (hl : l ∈ L) :
    Good L n Src (relax p k l).1 r ∧ (∀ j, (relax p k l).1.getD j 0 ≤ p.1.getD j 0) ∧ (∀ s w, Src s → Wk L s w l.a → w.length ≤ r → (relax p k l).1.getD l.b 0 ≤ lenW w + l.m) := by
  obtain ⟨ha, hb⟩ := hL l hl
  have hbl : l.b < p.1.length := by rw [hg.len]; exact hb
  unfold relax
  split
  · rename_i hi
    have hmon : ∀ j, (p.1.set l.b (p.1.getD l.a 0 + l.m)).getD j 0 ≤ p.1.getD j 0 := fun j => by
      rw [getD_set hbl]
      split
      · rename_i e; subst e; have := hi.2; omega
      · exact Int.le_refl _
    refine ⟨⟨by simp [hg.len], fun j hj => Int.le_trans (hmon j) (hg.le j hj), fun j hj hf => ?_, fun s w j hs hw hl => Int.le_trans (hmon j) (hg.low s w j hs hw hl)⟩, hmon, fun s w hs hw hl => ?_⟩
    · dsimp only at hf ⊢
      rw [getD_set hbl] at hf ⊢
      split
      · rename_i e; subst e
        obtain ⟨s, w, h1, h2, h3⟩ := hg.real l.a ha hi.1
        exact ⟨s, w ++ [l], h1, h2.snoc hl, by rw [lenW_append, h3]; simp [lenW]⟩
      · rename_i e
        rw [if_neg e] at hf
        exact hg.real j hj hf
    · dsimp only
      rw [getD_set hbl, if_pos rfl]
      have := hg.low s w l.a hs hw hl
      omega
  · rename_i hi
    refine ⟨hg, fun j => Int.le_refl _, fun s w hs hw hl' => ?_⟩
    have h1 := hg.low s w l.a hs hw hl'
    have h2 := (lenW_bound w (fun x hx => hB x (hw.mem x hx))).2
    have h3 : B * (w.length : Int) ≤ B * (n : Int) := Int.mul_le_mul_of_nonneg_left (by omega) hB0
    unfold Imp at hi
    omega
theorem round_good (hL : ∀ l ∈ L, l.a < n ∧ l.b < n) (hB0 : 0 ≤ B) (hB : ∀ l ∈ L, -B ≤ l.m ∧ l.m ≤ B) (hfar : B * (n : Int) < far) {r : Nat} (hr : r ≤ n) :
    ∀ (R : List Lk) (k : Nat) (p : BS), (∀ l ∈ R, l ∈ L) → Good L n Src p.1 r →
    Good L n Src (roundF R k p).1 r ∧ (∀ j, (roundF R k p).1.getD j 0 ≤ p.1.getD j 0) ∧ ∀ l ∈ R, ∀ s w, Src s → Wk L s w l.a → w.length ≤ r → (roundF R k p).1.getD l.b 0 ≤ lenW w + l.m
  | [], k, p, _, hg => ⟨hg, fun j => Int.le_refl _, fun l hl => by simp at hl⟩
  | x :: R, k, p, hR, hg => by
    obtain ⟨h1, h2, h3⟩ := relax_good hL hB0 hB hfar hr hg k (hR x (by simp))
    obtain ⟨g1, g2, g3⟩ := round_good hL hB0 hB hfar hr R (k + 1) (relax p k x) (fun l hl => hR l (by simp [hl])) h1
    refine ⟨g1, fun j => Int.le_trans (g2 j) (h2 j), fun l hl s w hs hw hwl => ?_⟩
    rcases List.mem_cons.1 hl with rfl | hl
    · exact Int.le_trans (g2 _) (h3 s w hs hw hwl)
    · exact g3 l hl s w hs hw hwl
theorem round_succ (hL : ∀ l ∈ L, l.a < n ∧ l.b < n) (hB0 : 0 ≤ B) (hB : ∀ l ∈ L, -B ≤ l.m ∧ l.m ≤ B) (hfar : B * (n : Int) < far) {r : Nat} (hr : r ≤ n) {p : BS} (hg : Good L n Src p.1 r) : Good L n Src (roundF L 0 p).1 (r + 1) := by
  obtain ⟨h1, h2, h3⟩ := round_good (Src := Src) hL hB0 hB hfar hr L 0 p (fun _ h => h) hg
  refine ⟨h1.len, h1.le, h1.real, fun s w k hs hw hwl => ?_⟩
  by_cases hle : w.length ≤ r
  · exact h1.low s w k hs hw hle
  · obtain ⟨u, l, rfl⟩ : ∃ u l, w = u ++ [l] := ⟨w.dropLast, w.getLast (by intro e; subst e; simp at hle), (List.dropLast_concat_getLast _).symm⟩
    obtain ⟨w1, w2, rfl⟩ := hw.unsnoc
    have := h3 l w2 s u hs w1 (by simp at hwl; omega)
    rw [lenW_append]; simp only [lenW]; omega
theorem relax_chg (p : BS) (k : Nat) (l : Lk) (h : 0 ≤ p.2.2) : 0 ≤ (relax p k l).2.2 := by
  unfold relax
  split
  · exact Int.natCast_nonneg _
  · exact h
theorem round_chg : ∀ (R : List Lk) (k : Nat) (p : BS), 0 ≤ p.2.2 → 0 ≤ (roundF R k p).2.2
  | [], _, _, h => h
  | l :: R, k, p, h => round_chg R (k + 1) _ (relax_chg p k l h)
theorem round_still : ∀ (R : List Lk) (k : Nat) (p : BS), p.2.2 < 0 → (roundF R k p).2.2 < 0 → roundF R k p = p ∧ ∀ l ∈ R, ¬ Imp p.1 l
  | [], _, _, _, _ => ⟨rfl, fun l hl => by simp at hl⟩
  | x :: R, k, p, h, hq => by
    have hx : ¬ Imp p.1 x := fun hi => by
      have h1 : 0 ≤ (relax p k x).2.2 := by unfold relax; rw [if_pos hi]; exact Int.natCast_nonneg _
      have := round_chg R (k + 1) _ h1
      simp only [roundF] at hq
      omega
    have he : relax p k x = p := by unfold relax; rw [if_neg hx]
    simp only [roundF, he] at hq ⊢
    obtain ⟨h1, h2⟩ := round_still R (k + 1) p h hq
    refine ⟨h1, fun l hl => ?_⟩
    rcases List.mem_cons.1 hl with rfl | hl
    · exact hx
    · exact h2 l hl
theorem last_case : ∀ (R : List Lk) (k : Nat) (d b : List Int), (lastF R k d b = (d, b, -1) ∧ ∀ l ∈ R, ¬ Imp d l) ∨ ∃ j l, R[j]? = some l ∧ Imp d l ∧ lastF R k d b = (d, b.set l.b ((k + j : Nat) : Int), (l.b : Int))
  | [], _, _, _ => .inl ⟨rfl, fun l hl => by simp at hl⟩
  | x :: R, k, d, b => by
    unfold lastF
    by_cases hx : Imp d x
    · rw [if_pos hx]; exact .inr ⟨0, x, rfl, hx, rfl⟩
    · rw [if_neg hx]
      rcases last_case R (k + 1) d b with ⟨h1, h2⟩ | ⟨j, l, h1, h2, h3⟩
      · refine .inl ⟨h1, fun l hl => ?_⟩
        rcases List.mem_cons.1 hl with rfl | hl
        · exact hx
        · exact h2 l hl
      · exact .inr ⟨j + 1, l, by simpa using h1, h2, by rw [h3, show k + 1 + j = k + (j + 1) by omega]⟩
theorem loop_spec (hL : ∀ l ∈ L, l.a < n ∧ l.b < n) (hB0 : 0 ≤ B) (hB : ∀ l ∈ L, -B ≤ l.m ∧ l.m ≤ B) (hfar : B * (n : Int) < far) (hsrc : ∀ s, Src s → s < n) :
    ∀ (c r : Nat) (d b : List Int), c + r = n → Good L n Src d r →
    ((loopF L c d b).2.2 < 0 ∧ Good L n Src (loopF L c d b).1 0 ∧ ∀ l ∈ L, ¬ Imp (loopF L c d b).1 l) ∨ (0 ≤ (loopF L c d b).2.2 ∧ ¬ NoNeg L)
  | 0, r, d, b, hc, hg => by
    unfold loopF
    rcases last_case L 0 d b with ⟨h1, h2⟩ | ⟨j, l, h1, h2, h3⟩
    · rw [h1]
      exact .inl ⟨(by decide : (-1 : Int) < 0), ⟨hg.len, hg.le, hg.real, fun s w k hs hw hwl => hg.low s w k hs hw (by omega)⟩, h2⟩
    · rw [h3]
      refine .inr ⟨Int.natCast_nonneg _, fun hn => ?_⟩
      have hl := List.mem_of_getElem? h1
      obtain ⟨ha, hb⟩ := hL l hl
      obtain ⟨s, w, w1, w2, w3⟩ := hg.real l.a ha h2.1
      obtain ⟨q, q1, q2, q3⟩ := hn.short (w2.snoc hl)
      have q4 := q3.len q1 hL (hsrc s w1)
      have q5 := hg.low s q l.b w1 q1 (by omega)
      rw [lenW_append] at q2
      simp only [lenW] at q2
      have := h2.2
      omega
  | c + 1, r, d, b, hc, hg => by
    unfold loopF
    by_cases hq : (roundF L 0 (d, b, -1)).2.2 < 0
    · rw [if_pos hq]
      obtain ⟨h1, h2⟩ := round_still L 0 (d, b, -1) (by decide : (-1 : Int) < 0) hq
      rw [h1]
      exact .inl ⟨(by decide : (-1 : Int) < 0), ⟨hg.len, hg.le, hg.real, fun s w k hs hw hwl => hg.low s w k hs hw (by omega)⟩, h2⟩
    · rw [if_neg hq]
      exact loop_spec hL hB0 hB hfar hsrc c (r + 1) _ _ (by omega) (round_succ hL hB0 hB hfar (by omega) (p := (d, b, -1)) hg)
def SrcF (n : Nat) (f : Int) (s : Nat) : Prop := s < n ∧ (f < 0 ∨ (s : Int) = f)
theorem init_get (n : Nat) (f : Int) {k : Nat} (h : k < n) : (initF n f).getD k 0 = if 0 ≤ f ∧ (k : Int) ≠ f then far else 0 := by
  unfold initF
  rw [List.getD_eq_getElem?_getD, List.getElem?_map, List.getElem?_range h]; rfl
theorem init_good (hL : ∀ l ∈ L, l.a < n ∧ l.b < n) (f : Int) : Good L n (SrcF n f) (initF n f) 0 := by
  refine ⟨by simp [initF], fun k hk => ?_, fun k hk hf => ?_, fun s p k hs hw hp => ?_⟩
  · rw [init_get n f hk]; split <;> decide
  · rw [init_get n f hk] at hf ⊢
    split at hf
    · exact absurd hf (by decide)
    · rename_i h
      rw [if_neg h]
      exact ⟨k, [], ⟨hk, by omega⟩, rfl, rfl⟩
  · have : p = [] := List.length_eq_zero_iff.1 (by omega)
    subst this
    simp only [Wk] at hw
    subst hw
    rw [init_get n f hs.1, if_neg (by have := hs.2; omega)]
    exact Int.le_refl _
theorem lengths_spec (hL : ∀ l ∈ L, l.a < n ∧ l.b < n) (hB0 : 0 ≤ B) (hB : ∀ l ∈ L, -B ≤ l.m ∧ l.m ≤ B) (hfar : B * (n : Int) < far) (f : Int) :
    ((lengthsF n L f).2.2 < 0 ∧ Good L n (SrcF n f) (lengthsF n L f).1 0 ∧ ∀ l ∈ L, ¬ Imp (lengthsF n L f).1 l) ∨ (0 ≤ (lengthsF n L f).2.2 ∧ ¬ NoNeg L) :=
  loop_spec hL hB0 hB hfar (fun s h => h.1) n 0 _ _ rfl (init_good hL f)
theorem good_low (hL : ∀ l ∈ L, l.a < n ∧ l.b < n) (hB0 : 0 ≤ B) (hB : ∀ l ∈ L, -B ≤ l.m ∧ l.m ≤ B) (hfar : B * (n : Int) < far) {d : List Int} (hg : Good L n Src d 0) (hi : ∀ l ∈ L, ¬ Imp d l) :
    ∀ (c : Nat) (p : List Lk) (s k : Nat), p.length = c → c ≤ n → Src s → Wk L s p k → d.getD k 0 ≤ lenW p
  | 0, p, s, k, hc, _, hs, hw => hg.low s p k hs hw (by omega)
  | c + 1, p, s, k, hc, hcn, hs, hw => by
    obtain ⟨u, l, rfl⟩ : ∃ u l, p = u ++ [l] := ⟨p.dropLast, p.getLast (by intro e; subst e; simp at hc), (List.dropLast_concat_getLast _).symm⟩
    obtain ⟨w1, w2, rfl⟩ := hw.unsnoc
    have hul : u.length = c := by simpa using hc
    have h1 := good_low hL hB0 hB hfar hg hi c u s l.a hul (by omega) hs w1
    have h2 := (lenW_bound u (fun x hx => hB x (w1.mem x hx))).2
    have h3 : B * (u.length : Int) ≤ B * (n : Int) := Int.mul_le_mul_of_nonneg_left (by omega) hB0
    have h4 := hi l w2
    unfold Imp at h4
    rw [lenW_append]
    simp only [lenW]
    omega
theorem lengths_noNeg (hL : ∀ l ∈ L, l.a < n ∧ l.b < n) (hB0 : 0 ≤ B) (hB : ∀ l ∈ L, -B ≤ l.m ∧ l.m ≤ B) (hfar : B * (n : Int) < far) : (lengthsF n L (-1)).2.2 < 0 ↔ NoNeg L := by
  rcases lengths_spec hL hB0 hB hfar (-1) with ⟨h1, h2, h3⟩ | ⟨h1, h2⟩
  · refine ⟨fun _ => NoNeg.of_pot (f := fun k => (lengthsF n L (-1)).1.getD k 0) fun l hl => ?_, fun _ => h1⟩
    obtain ⟨ha, hb⟩ := hL l hl
    have h4 := h2.low l.a [] l.a ⟨ha, .inl (by decide)⟩ rfl (Nat.le_refl _)
    have h5 := h3 l hl
    unfold Imp at h5
    simp only [lenW] at h4
    have h6 : (0 : Int) < far := by decide
    omega
  · exact ⟨fun h => by omega, fun h => absurd h h2⟩
theorem lengths_dist (hL : ∀ l ∈ L, l.a < n ∧ l.b < n) (hB0 : 0 ≤ B) (hB : ∀ l ∈ L, -B ≤ l.m ∧ l.m ≤ B) (hfar : B * (n : Int) < far) (hn : NoNeg L) (f : Int) : Dist L n (SrcF n f) far (fun k => (lengthsF n L f).1.getD k 0) := by
  rcases lengths_spec hL hB0 hB hfar f with ⟨h1, h2, h3⟩ | ⟨h1, h2⟩
  · refine ⟨h2.le, h2.real, fun s p k hs hw => ?_⟩
    obtain ⟨q, q1, q2, q3⟩ := hn.short hw
    have q4 := q3.len q1 hL hs.1
    have := good_low hL hB0 hB hfar h2 h3 q.length q s k rfl (by omega) hs q1
    omega
  · exact absurd hn h2
end
end Go.Proofs.Ks

namespace Go.Proofs.Ks
abbrev Mx := List (List Int)
def mget (o : Mx) (i k : Nat) : Int := (o.getD i []).getD k 0
def Semi (i : Nat) (p : List Lk) : Prop := (i :: p.dropLast.map (·.b)).Nodup
theorem Simple.semi {i : Nat} {p : List Lk} (h : Simple i p) : Semi i p := by
  unfold Simple at h; unfold Semi
  obtain ⟨h1, h2⟩ := List.nodup_cons.1 h
  refine List.nodup_cons.2 ⟨fun hm => h1 ?_, ?_⟩
  · obtain ⟨l, hl, e⟩ := List.mem_map.1 hm
    exact List.mem_map.2 ⟨l, (List.dropLast_sublist _).subset hl, e⟩
  · rw [List.map_dropLast]
    exact h2.sublist (List.dropLast_sublist _)
structure FW (L : List Lk) (n : Nat) (o : Mx) (m : Nat) : Prop where
  len : o.length = n
  row : ∀ i, i < n → (o.getD i []).length = n
  le : ∀ i k, i < n → k < n → mget o i k ≤ far
  real : ∀ i k, i < n → k < n → mget o i k < far → ∃ p, Wk L i p k ∧ lenW p = mget o i k
  low : ∀ i k p, i < n → k < n → Wk L i p k → Semi i p → (∀ x ∈ p.dropLast.map (·.b), x < m) → mget o i k ≤ lenW p
section
variable {L : List Lk} {n : Nat} {B : Int}
theorem Semi.len {i k : Nat} {p : List Lk} (h : Semi i p) (hw : Wk L i p k) (hL : ∀ l ∈ L, l.a < n ∧ l.b < n) (hi : i < n) : p.length ≤ n := by
  have h1 := pigeon n _ (fun x hx => ?_) h
  · simp only [List.length_cons, List.length_map, List.length_dropLast] at h1; omega
  · rcases List.mem_cons.1 hx with rfl | hx
    · exact hi
    · obtain ⟨l, hl, rfl⟩ := List.mem_map.1 hx
      exact (hL l (hw.mem l ((List.dropLast_sublist _).subset hl))).2
theorem Semi.lt (hL : ∀ l ∈ L, l.a < n ∧ l.b < n) (hB0 : 0 ≤ B) (hB : ∀ l ∈ L, -B ≤ l.m ∧ l.m ≤ B) (hfar : B * (n : Int) < far) {i k : Nat} {p : List Lk} (h : Semi i p) (hw : Wk L i p k) (hi : i < n) : lenW p < far := by
  have h1 := h.len hw hL hi
  have h2 := (lenW_bound p (fun x hx => hB x (hw.mem x hx))).2
  have h3 : B * (p.length : Int) ≤ B * (n : Int) := Int.mul_le_mul_of_nonneg_left (by omega) hB0
  omega
structure FW0 (L : List Lk) (n : Nat) (P : Lk → Prop) (o : Mx) : Prop where
  len : o.length = n
  row : ∀ i, i < n → (o.getD i []).length = n
  le : ∀ i k, i < n → k < n → mget o i k ≤ far
  real : ∀ i k, i < n → k < n → mget o i k < far → ∃ p, Wk L i p k ∧ lenW p = mget o i k
  zero : ∀ i, i < n → mget o i i ≤ 0
  link : ∀ l, P l → mget o l.a l.b ≤ l.m
end
end Go.Proofs.Ks

namespace Go.Proofs.Ds
structure Span where
  lo : Int
  hi : Int
  deriving DecidableEq, Inhabited
structure Arc where
  from_ : Int
  len : Int
  deriving DecidableEq, Inhabited
def memS (x : Int) (l : List Span) : Prop := ∃ s ∈ l, s.lo ≤ x ∧ x ≤ s.hi
def canon (l : List Span) : Prop := l.Pairwise (fun s t => s.hi + 1 < t.lo) ∧ ∀ s ∈ l, s.lo ≤ s.hi
theorem memS_nil {x : Int} : ¬ memS x [] := by rintro ⟨s, h, _⟩; cases h
theorem memS_cons {x : Int} {s : Span} {l : List Span} : memS x (s :: l) ↔ (s.lo ≤ x ∧ x ≤ s.hi) ∨ memS x l := by
  constructor
  · rintro ⟨t, ht, h⟩
    rcases List.mem_cons.1 ht with rfl | ht
    · exact .inl h
    · exact .inr ⟨t, ht, h⟩
  · rintro (h | ⟨t, ht, h⟩)
    · exact ⟨s, by simp, h⟩
    · exact ⟨t, by simp [ht], h⟩
theorem canon_nil : canon [] := ⟨List.Pairwise.nil, fun s h => by cases h⟩
theorem canon_cons {s : Span} {l : List Span} : canon (s :: l) ↔ s.lo ≤ s.hi ∧ (∀ t ∈ l, s.hi + 1 < t.lo) ∧ canon l := by
  unfold canon
  rw [List.pairwise_cons]
  constructor
  · rintro ⟨⟨h1, h2⟩, h3⟩
    exact ⟨h3 s (by simp), h1, h2, fun t ht => h3 t (by simp [ht])⟩
  · rintro ⟨h1, h2, h3, h4⟩
    refine ⟨⟨h2, h3⟩, fun t ht => ?_⟩
    rcases List.mem_cons.1 ht with rfl | ht
    · exact h1
    · exact h4 t ht
theorem canon_far {s : Span} {l : List Span} (h : canon (s :: l)) {x : Int} (hx : memS x l) : s.hi + 1 < x := by
  obtain ⟨_, h2, _⟩ := canon_cons.1 h
  obtain ⟨t, ht, h3, _⟩ := hx
  have := h2 t ht
  omega
theorem canon_ext : ∀ {a b : List Span}, canon a → canon b → (∀ x, memS x a ↔ memS x b) → a = b
  | [], [], _, _, _ => rfl
  | [], t :: b, _, hb, h => by
    have h1 := (canon_cons.1 hb).1
    exact absurd ((h t.lo).2 (memS_cons.2 (.inl ⟨Int.le_refl _, h1⟩))) memS_nil
  | s :: a, [], ha, _, h => by
    have h1 := (canon_cons.1 ha).1
    exact absurd ((h s.lo).1 (memS_cons.2 (.inl ⟨Int.le_refl _, h1⟩))) memS_nil
  | s :: a, t :: b, ha, hb, h => by
    obtain ⟨a1, a2, a3⟩ := canon_cons.1 ha
    obtain ⟨b1, b2, b3⟩ := canon_cons.1 hb
    have in_a : ∀ {x}, memS x (s :: a) → s.lo ≤ x := fun {x} hx => by
      rcases memS_cons.1 hx with h | h
      · exact h.1
      · have := canon_far ha h; omega
    have in_b : ∀ {x}, memS x (t :: b) → t.lo ≤ x := fun {x} hx => by
      rcases memS_cons.1 hx with h | h
      · exact h.1
      · have := canon_far hb h; omega
    have e1 : s.lo = t.lo := by
      have h1 := in_b ((h s.lo).1 (memS_cons.2 (.inl ⟨Int.le_refl _, a1⟩)))
      have h2 := in_a ((h t.lo).2 (memS_cons.2 (.inl ⟨Int.le_refl _, b1⟩)))
      omega
    have e2 : s.hi = t.hi := by
      rcases Int.lt_trichotomy s.hi t.hi with hlt | he | hlt
      · have := (h (s.hi + 1)).2 (memS_cons.2 (.inl ⟨by omega, by omega⟩))
        rcases memS_cons.1 this with h' | h'
        · omega
        · have := canon_far ha h'; omega
      · exact he
      · have := (h (t.hi + 1)).1 (memS_cons.2 (.inl ⟨by omega, by omega⟩))
        rcases memS_cons.1 this with h' | h'
        · omega
        · have := canon_far hb h'; omega
    have e : s = t := by cases s; cases t; simp_all
    subst e
    congr 1
    refine canon_ext a3 b3 fun x => ⟨fun hx => ?_, fun hx => ?_⟩
    · have h1 := canon_far ha hx
      rcases memS_cons.1 ((h x).1 (memS_cons.2 (.inr hx))) with h' | h'
      · omega
      · exact h'
    · have h1 := canon_far hb hx
      rcases memS_cons.1 ((h x).2 (memS_cons.2 (.inr hx))) with h' | h'
      · omega
      · exact h'
def joinC : Span → List Span → List Span
  | c, [] => [c]
  | c, s :: l => if s.lo ≤ c.hi + 1 then joinC ⟨c.lo, max c.hi s.hi⟩ l else c :: joinC s l
def joinS : List Span → List Span
  | [] => []
  | s :: l => joinC s l
theorem joinC_spec : ∀ (l : List Span) (c : Span), c.lo ≤ c.hi → (∀ s ∈ l, s.lo ≤ s.hi) → (∀ s ∈ l, c.lo ≤ s.lo) → l.Pairwise (fun s t => s.lo ≤ t.lo) →
    canon (joinC c l) ∧ (∀ x, memS x (joinC c l) ↔ memS x (c :: l)) ∧ (∀ s ∈ joinC c l, c.lo ≤ s.lo)
  | [], c, h, _, _, _ => ⟨canon_cons.2 ⟨h, fun t ht => (by cases ht), canon_nil⟩, fun x => Iff.rfl, fun s hs => by simp [joinC] at hs; subst hs; exact Int.le_refl _⟩
  | s :: l, c, h, hw, hc, hp => by
    have hs := hw s (by simp)
    have hcs := hc s (by simp)
    obtain ⟨hp1, hp2⟩ := List.pairwise_cons.1 hp
    unfold joinC
    by_cases e : s.lo ≤ c.hi + 1
    · rw [if_pos e]
      obtain ⟨h1, h2, h3⟩ := joinC_spec l ⟨c.lo, max c.hi s.hi⟩ (by show c.lo ≤ max c.hi s.hi; omega) (fun t ht => hw t (by simp [ht])) (fun t ht => hc t (by simp [ht])) hp2
      refine ⟨h1, fun x => ?_, h3⟩
      rw [h2, memS_cons, memS_cons, memS_cons]
      dsimp only
      constructor
      · rintro (hx | hx)
        · rcases Int.lt_or_le c.hi x with g | g
          · exact .inr (.inl ⟨by omega, by omega⟩)
          · exact .inl ⟨hx.1, g⟩
        · exact .inr (.inr hx)
      · rintro (hx | hx | hx)
        · exact .inl ⟨hx.1, by omega⟩
        · exact .inl ⟨by omega, by omega⟩
        · exact .inr hx
    · rw [if_neg e]
      obtain ⟨h1, h2, h3⟩ := joinC_spec l s hs (fun t ht => hw t (by simp [ht])) (fun t ht => hp1 t ht) hp2
      refine ⟨canon_cons.2 ⟨h, fun t ht => by have := h3 t ht; omega, h1⟩, fun x => ?_, fun t ht => ?_⟩
      · rw [memS_cons, h2]; exact memS_cons.symm
      · rcases List.mem_cons.1 ht with rfl | ht
        · exact Int.le_refl _
        · have := h3 t ht; omega
theorem joinS_spec {l : List Span} (hw : ∀ s ∈ l, s.lo ≤ s.hi) (hp : l.Pairwise (fun s t => s.lo ≤ t.lo)) : canon (joinS l) ∧ ∀ x, memS x (joinS l) ↔ memS x l := by
  cases l with
  | nil => exact ⟨canon_nil, fun x => Iff.rfl⟩
  | cons s l =>
    obtain ⟨hp1, hp2⟩ := List.pairwise_cons.1 hp
    obtain ⟨h1, h2, _⟩ := joinC_spec l s (hw s (by simp)) (fun t ht => hw t (by simp [ht])) hp1 hp2
    exact ⟨h1, h2⟩
def growS : Span → List Span → Span
  | s, [] => s
  | s, t :: l => growS (if t.hi + 1 < s.lo ∨ s.hi + 1 < t.lo then s else ⟨min s.lo t.lo, max s.hi t.hi⟩) l
def leftS : Span → List Span → List Span
  | _, [] => []
  | s, t :: l => if t.hi + 1 < s.lo ∨ s.hi + 1 < t.lo then t :: leftS s l else leftS ⟨min s.lo t.lo, max s.hi t.hi⟩ l
def insB (s : Span) (l : List Span) : List Span := (l.takeWhile fun t => decide (t.lo < s.lo)) ++ s :: (l.dropWhile fun t => decide (t.lo < s.lo))
def putD (l : List Span) (s : Span) : List Span := insB (growS s l) (leftS s l)
theorem put_parts : ∀ (l : List Span) (s : Span), canon l → s.lo ≤ s.hi →
    (∀ x, memS x (leftS s l) ∨ ((growS s l).lo ≤ x ∧ x ≤ (growS s l).hi) ↔ memS x l ∨ (s.lo ≤ x ∧ x ≤ s.hi)) ∧
    (∀ t ∈ leftS s l, t.hi + 1 < (growS s l).lo ∨ (growS s l).hi + 1 < t.lo) ∧ (leftS s l).Sublist l ∧ (growS s l).lo ≤ s.lo ∧ s.hi ≤ (growS s l).hi
  | [], s, _, h => ⟨fun x => by simp [leftS, growS, memS_nil], fun t ht => by simp [leftS] at ht, List.Sublist.refl _, Int.le_refl _, Int.le_refl _⟩
  | t :: l, s, hl, h => by
    obtain ⟨l1, l2, l3⟩ := canon_cons.1 hl
    unfold leftS growS
    by_cases e : t.hi + 1 < s.lo ∨ s.hi + 1 < t.lo
    · rw [if_pos e, if_pos e]
      obtain ⟨h1, h2, h3, h4, h5⟩ := put_parts l s l3 h
      -- the grown span reaches t no more: what it swallows lies behind t, and s apart from it
      have far : t.hi + 1 < (growS s l).lo ∨ (growS s l).hi + 1 < t.lo := by
        rcases e with e | e
        · left
          rcases (h1 (growS s l).lo).1 (.inr ⟨Int.le_refl _, by omega⟩) with g | g
          · have := canon_far hl g; omega
          · omega
        · -- s ends ahead of t: all of l lies behind t, so nothing of l touches s
          right
          have hgrow : growS s l = s := by
            have key : ∀ m : List Span, (∀ u ∈ m, s.hi + 1 < u.lo) → growS s m = s := by
              intro m
              induction m with
              | nil => intro _; rfl
              | cons u m ih =>
                intro hm
                unfold growS
                rw [if_pos (.inr (hm u (by simp)))]
                exact ih fun v hv => hm v (by simp [hv])
            exact key l fun u hu => by have := l2 u hu; omega
          rw [hgrow]; exact e
      refine ⟨fun x => ?_, fun u hu => ?_, List.Sublist.cons_cons _ h3, h4, h5⟩
      · rw [memS_cons, memS_cons]
        constructor
        · rintro ((hx | hx) | hx)
          · exact .inl (.inl hx)
          · rcases (h1 x).1 (.inl hx) with g | g
            · exact .inl (.inr g)
            · exact .inr g
          · rcases (h1 x).1 (.inr hx) with g | g
            · exact .inl (.inr g)
            · exact .inr g
        · rintro ((hx | hx) | hx)
          · exact .inl (.inl hx)
          · rcases (h1 x).2 (.inl hx) with g | g
            · exact .inl (.inr g)
            · exact .inr g
          · rcases (h1 x).2 (.inr hx) with g | g
            · exact .inl (.inr g)
            · exact .inr g
      · rcases List.mem_cons.1 hu with rfl | hu
        · exact far
        · exact h2 u hu
    · rw [if_neg e, if_neg e]
      have e' : ¬ t.hi + 1 < s.lo ∧ ¬ s.hi + 1 < t.lo := not_or.1 e
      obtain ⟨h1, h2, h3, h4, h5⟩ := put_parts l ⟨min s.lo t.lo, max s.hi t.hi⟩ l3 (by show min s.lo t.lo ≤ max s.hi t.hi; omega)
      refine ⟨fun x => ?_, h2, h3.trans (List.sublist_cons_self _ _), ?_, ?_⟩
      · rw [h1, memS_cons]
        dsimp only
        constructor
        · rintro (hx | hx)
          · exact .inl (.inr hx)
          · by_cases g : s.lo ≤ x ∧ x ≤ s.hi
            · exact .inr g
            · exact .inl (.inl (by omega))
        · rintro ((hx | hx) | hx)
          · exact .inr (by omega)
          · exact .inl hx
          · exact .inr (by omega)
      · dsimp only at h4; omega
      · dsimp only at h5; omega
theorem canon_sublist {a b : List Span} (h : a.Sublist b) (hb : canon b) : canon a := ⟨hb.1.sublist h, fun s hs => hb.2 s (h.subset hs)⟩
theorem insB_spec (s : Span) : ∀ l : List Span, canon l → s.lo ≤ s.hi → (∀ t ∈ l, t.hi + 1 < s.lo ∨ s.hi + 1 < t.lo) → canon (insB s l) ∧ ∀ x, memS x (insB s l) ↔ memS x l ∨ (s.lo ≤ x ∧ x ≤ s.hi)
  | [], _, h, _ => ⟨canon_cons.2 ⟨h, fun t ht => (by cases ht), canon_nil⟩, fun x => by simp [insB, memS_cons, memS_nil]⟩
  | t :: l, hl, h, hf => by
    obtain ⟨l1, l2, l3⟩ := canon_cons.1 hl
    have hft := hf t (by simp)
    by_cases e : t.lo < s.lo
    · have e1 : insB s (t :: l) = t :: insB s l := by unfold insB; rw [List.takeWhile_cons_of_pos (by simpa using e), List.dropWhile_cons_of_pos (by simpa using e)]; rfl
      obtain ⟨h1, h2⟩ := insB_spec s l l3 h fun u hu => hf u (by simp [hu])
      rw [e1]
      refine ⟨canon_cons.2 ⟨l1, fun u hu => ?_, h1⟩, fun x => ?_⟩
      · rcases List.mem_append.1 hu with hu | hu
        · exact l2 u ((List.takeWhile_sublist _).subset hu)
        · rcases List.mem_cons.1 hu with rfl | hu
          · omega
          · exact l2 u ((List.dropWhile_sublist _).subset hu)
      · rw [memS_cons, memS_cons, h2]
        constructor
        · rintro (g | g | g)
          · exact .inl (.inl g)
          · exact .inl (.inr g)
          · exact .inr g
        · rintro ((g | g) | g)
          · exact .inl g
          · exact .inr (.inl g)
          · exact .inr (.inr g)
    · have e1 : insB s (t :: l) = s :: t :: l := by unfold insB; rw [List.takeWhile_cons_of_neg (by simpa using e), List.dropWhile_cons_of_neg (by simpa using e)]; rfl
      rw [e1]
      refine ⟨canon_cons.2 ⟨h, fun u hu => ?_, hl⟩, fun x => ?_⟩
      · rcases List.mem_cons.1 hu with rfl | hu
        · omega
        · have := l2 u hu; omega
      · rw [memS_cons]
        constructor
        · rintro (g | g)
          · exact .inr g
          · exact .inl g
        · rintro (g | g)
          · exact .inr g
          · exact .inl g
theorem putD_spec {l : List Span} {s : Span} (hl : canon l) (h : s.lo ≤ s.hi) : canon (putD l s) ∧ ∀ x, memS x (putD l s) ↔ memS x l ∨ (s.lo ≤ x ∧ x ≤ s.hi) := by
  obtain ⟨h1, h2, h3, h4, h5⟩ := put_parts l s hl h
  obtain ⟨g1, g2⟩ := insB_spec (growS s l) (leftS s l) (canon_sublist h3 hl) (by omega) h2
  exact ⟨g1, fun x => by unfold putD; rw [g2, h1]⟩
end Go.Proofs.Ds

namespace Go.Proofs.Ds
def inC (l : List Span) : Prop := ∀ s ∈ l, 0 ≤ s.lo ∧ s.hi ≤ 43199
theorem inC_of_mem {l : List Span} (hl : canon l) (h : ∀ x, memS x l → 0 ≤ x ∧ x ≤ 43199) : inC l := fun s hs => by
  have h1 := hl.2 s hs
  have h2 := h s.lo ⟨s, hs, Int.le_refl _, h1⟩
  have h3 := h s.hi ⟨s, hs, h1, Int.le_refl _⟩
  omega
theorem mem_inC {l : List Span} (h : inC l) {x : Int} (hx : memS x l) : 0 ≤ x ∧ x ≤ 43199 := by
  obtain ⟨s, hs, h1, h2⟩ := hx
  have := h s hs
  omega
def cutS (s t : Span) : Span := ⟨max s.lo t.lo, min s.hi t.hi⟩
def meetF : List Span → List Span → List Span
  | [], _ => []
  | _ :: _, [] => []
  | s :: a, t :: b =>
    let m := if s.hi < t.hi then meetF a (t :: b) else meetF (s :: a) b
    if (cutS s t).lo ≤ (cutS s t).hi then cutS s t :: m else m
termination_by a b => a.length + b.length
theorem meetF_spec : ∀ (n : Nat) (a b : List Span), a.length + b.length ≤ n → canon a → canon b →
    canon (meetF a b) ∧ (∀ x, memS x (meetF a b) ↔ memS x a ∧ memS x b) ∧ (∀ u ∈ meetF a b, (∃ s ∈ a, s.lo ≤ u.lo) ∧ ∃ t ∈ b, t.lo ≤ u.lo)
  | _, [], b, _, _, _ => by
    rw [meetF]
    exact ⟨canon_nil, fun x => ⟨fun h => absurd h memS_nil, fun h => absurd h.1 memS_nil⟩, fun u hu => by cases hu⟩
  | _, s :: a, [], _, _, _ => by
    rw [meetF]
    exact ⟨canon_nil, fun x => ⟨fun h => absurd h memS_nil, fun h => absurd h.2 memS_nil⟩, fun u hu => by cases hu⟩
  | 0, s :: a, t :: b, h, _, _ => by simp at h
  | n + 1, s :: a, t :: b, h, ha, hb => by
    obtain ⟨a1, a2, a3⟩ := canon_cons.1 ha
    obtain ⟨b1, b2, b3⟩ := canon_cons.1 hb
    rw [meetF]
    -- the rest, its numbers, and that it lies behind what the two have in common
    have rest : ∃ m, (if s.hi < t.hi then meetF a (t :: b) else meetF (s :: a) b) = m ∧ canon m ∧ (∀ x, (memS x m ∨ (max s.lo t.lo ≤ x ∧ x ≤ min s.hi t.hi)) ↔ memS x (s :: a) ∧ memS x (t :: b)) ∧
        (∀ u ∈ m, min s.hi t.hi + 1 < u.lo) ∧ ∀ u ∈ m, (∃ s' ∈ s :: a, s'.lo ≤ u.lo) ∧ ∃ t' ∈ t :: b, t'.lo ≤ u.lo := by
      by_cases e : s.hi < t.hi
      · obtain ⟨h1, h2, h3⟩ := meetF_spec n a (t :: b) (by simp at h ⊢; omega) a3 hb
        refine ⟨_, if_pos e, h1, fun x => ?_, fun u hu => ?_, fun u hu => ?_⟩
        · rw [h2, memS_cons (s := s)]
          constructor
          · rintro (g | g)
            · exact ⟨.inr g.1, g.2⟩
            · exact ⟨.inl (by omega), memS_cons.2 (.inl (by omega))⟩
          · rintro ⟨g | g, g'⟩
            · rcases memS_cons.1 g' with k | k
              · exact .inr (by omega)
              · have := canon_far hb k; omega
            · exact .inl ⟨g, g'⟩
        · obtain ⟨⟨s', hs', h4⟩, _⟩ := h3 u hu
          have := a2 s' hs'
          omega
        · obtain ⟨⟨s', hs', h4⟩, h5⟩ := h3 u hu
          exact ⟨⟨s', by simp [hs'], h4⟩, h5⟩
      · obtain ⟨h1, h2, h3⟩ := meetF_spec n (s :: a) b (by simp at h ⊢; omega) ha b3
        refine ⟨_, if_neg e, h1, fun x => ?_, fun u hu => ?_, fun u hu => ?_⟩
        · rw [h2, memS_cons (s := t)]
          constructor
          · rintro (g | g)
            · exact ⟨g.1, .inr g.2⟩
            · exact ⟨memS_cons.2 (.inl (by omega)), .inl (by omega)⟩
          · rintro ⟨g', g | g⟩
            · rcases memS_cons.1 g' with k | k
              · exact .inr (by omega)
              · have := canon_far ha k; omega
            · exact .inl ⟨g', g⟩
        · obtain ⟨_, ⟨t', ht', h4⟩⟩ := h3 u hu
          have := b2 t' ht'
          omega
        · obtain ⟨h5, ⟨t', ht', h4⟩⟩ := h3 u hu
          exact ⟨h5, ⟨t', by simp [ht'], h4⟩⟩
    obtain ⟨m, hm, m1, m2, m3, m4⟩ := rest
    rw [hm]
    unfold cutS
    dsimp only
    by_cases e : max s.lo t.lo ≤ min s.hi t.hi
    · rw [if_pos e]
      refine ⟨canon_cons.2 ⟨e, m3, m1⟩, fun x => ?_, fun u hu => ?_⟩
      · rw [memS_cons, ← m2]
        dsimp only
        constructor
        · rintro (g | g)
          · exact .inr g
          · exact .inl g
        · rintro (g | g)
          · exact .inr g
          · exact .inl g
      · rcases List.mem_cons.1 hu with rfl | hu
        · exact ⟨⟨s, by simp, by dsimp only; omega⟩, ⟨t, by simp, by dsimp only; omega⟩⟩
        · exact m4 u hu
    · rw [if_neg e]
      refine ⟨m1, fun x => ?_, m4⟩
      rw [← m2]
      constructor
      · exact .inl
      · rintro (g | g)
        · exact g
        · omega
theorem meet_spec {a b : List Span} (ha : canon a) (hb : canon b) : canon (meetF a b) ∧ ∀ x, memS x (meetF a b) ↔ memS x a ∧ memS x b :=
  ⟨(meetF_spec _ a b (Nat.le_refl _) ha hb).1, (meetF_spec _ a b (Nat.le_refl _) ha hb).2.1⟩
def putAll (m l : List Span) : List Span := l.foldl putD m
theorem putAll_spec : ∀ (l m : List Span), canon m → (∀ s ∈ l, s.lo ≤ s.hi) → canon (putAll m l) ∧ ∀ x, memS x (putAll m l) ↔ memS x m ∨ memS x l
  | [], m, hm, _ => ⟨hm, fun x => ⟨.inl, fun h => h.elim id fun h => absurd h memS_nil⟩⟩
  | s :: l, m, hm, h => by
    obtain ⟨h1, h2⟩ := putD_spec hm (h s (by simp))
    obtain ⟨g1, g2⟩ := putAll_spec l (putD m s) h1 fun t ht => h t (by simp [ht])
    refine ⟨g1, fun x => ?_⟩
    show memS x (putAll (putD m s) l) ↔ _
    rw [g2, h2, memS_cons]
    constructor
    · rintro ((k | k) | k)
      · exact .inl k
      · exact .inr (.inl k)
      · exact .inr (.inr k)
    · rintro (k | k | k)
      · exact .inl (.inl k)
      · exact .inl (.inr k)
      · exact .inr k
def piecesF (x : Arc) : List Span := if x.from_ + x.len < 43200 then [⟨x.from_, x.from_ + x.len⟩] else [⟨x.from_, 43199⟩, ⟨0, x.from_ + x.len - 43200⟩]
def validA (x : Arc) : Bool := decide (0 ≤ x.from_) && decide (x.from_ < 43200) && decide (0 ≤ x.len) && decide (x.len < 43200) && (decide (x.len < 43199) || decide (x.from_ = 0))
theorem validA_iff {x : Arc} : validA x = true ↔ 0 ≤ x.from_ ∧ x.from_ < 43200 ∧ 0 ≤ x.len ∧ x.len < 43200 ∧ (x.len < 43199 ∨ x.from_ = 0) := by
  unfold validA
  simp only [Bool.and_eq_true, Bool.or_eq_true, decide_eq_true_eq, and_assoc]
def piecesL (l : List Arc) : List Span := l.flatMap piecesF
theorem piecesF_ok {x : Arc} (h : validA x = true) : ∀ s ∈ piecesF x, s.lo ≤ s.hi ∧ 0 ≤ s.lo ∧ s.hi ≤ 43199 := by
  obtain ⟨h1, h2, h3, h4, h5⟩ := validA_iff.1 h
  intro s hs
  unfold piecesF at hs
  split at hs
  · simp at hs; subst hs; exact ⟨by dsimp only; omega, h1, by dsimp only; omega⟩
  · simp at hs
    rcases hs with rfl | rfl
    · exact ⟨by dsimp only; omega, h1, by dsimp only; omega⟩
    · exact ⟨by dsimp only; omega, by dsimp only; omega, by dsimp only; omega⟩
theorem piecesL_ok {l : List Arc} (h : ∀ x ∈ l, validA x = true) : ∀ s ∈ piecesL l, s.lo ≤ s.hi ∧ 0 ≤ s.lo ∧ s.hi ≤ 43199 := fun s hs => by
  obtain ⟨x, hx, hs⟩ := List.mem_flatMap.1 hs
  exact piecesF_ok (h x hx) s hs
def spansS (l : List Arc) : List Span := putAll [] (piecesL l)
theorem spans_spec {l : List Arc} (h : ∀ x ∈ l, validA x = true) : canon (spansS l) ∧ inC (spansS l) ∧ ∀ x, memS x (spansS l) ↔ memS x (piecesL l) := by
  obtain ⟨h1, h2⟩ := putAll_spec (piecesL l) [] canon_nil fun s hs => (piecesL_ok h s hs).1
  have h3 : ∀ x, memS x (spansS l) ↔ memS x (piecesL l) := fun x => by
    unfold spansS
    rw [h2]
    exact ⟨fun k => k.elim (fun k => absurd k memS_nil) id, .inr⟩
  refine ⟨h1, inC_of_mem h1 fun x hx => ?_, h3⟩
  obtain ⟨s, hs, k1, k2⟩ := (h3 x).1 hx
  have := piecesL_ok h s hs
  omega
theorem joined_eq {l : List Arc} (h : ∀ x ∈ l, validA x = true) {m : List Span} (hp : m.Perm (piecesL l)) (hs : m.Pairwise (fun s t => s.lo ≤ t.lo)) : joinS m = spansS l := by
  obtain ⟨h1, _, h3⟩ := spans_spec h
  obtain ⟨g1, g2⟩ := joinS_spec (l := m) (fun s hs' => (piecesL_ok h s (hp.subset hs')).1) hs
  refine canon_ext g1 h1 fun x => ?_
  rw [g2, h3]
  constructor
  · rintro ⟨s, k, k2⟩; exact ⟨s, hp.subset k, k2⟩
  · rintro ⟨s, k, k2⟩; exact ⟨s, hp.symm.subset k, k2⟩
end Go.Proofs.Ds

namespace Go.Proofs.Ds
def arcS (s : Span) : Arc := ⟨s.lo, s.hi - s.lo⟩
def bumpF (h : Int) : List Span → List Arc
  | [] => []
  | [s] => [⟨s.lo, s.hi - s.lo + 1 + h⟩]
  | s :: t :: l => arcS s :: bumpF h (t :: l)
def around (l : List Span) : Bool := decide (1 < l.length) && decide ((l.getD 0 default).lo = 0) && decide ((l.getD (l.length - 1) default).hi = 43199)
def arcsF (l : List Span) : List Arc := if around l = true then bumpF (l.getD 0 default).hi (l.drop 1) else l.map arcS
theorem bumpF_set (h : Int) : ∀ l : List Span, l ≠ [] → (l.map arcS).set (l.length - 1) ⟨(l.getD (l.length - 1) default).lo, (l.getD (l.length - 1) default).hi - (l.getD (l.length - 1) default).lo + 1 + h⟩ = bumpF h l
  | [], hn => absurd rfl hn
  | [s], _ => rfl
  | s :: t :: l, _ => by
    have ih := bumpF_set h (t :: l) (by simp)
    simp only [List.length_cons, Nat.add_sub_cancel] at ih ⊢
    rw [bumpF, ← ih]
    simp only [List.map_cons, List.getD_cons_succ, List.set_cons_succ]
theorem arcs_prog {l : List Span} (h : around l = true) :
    ((l.map arcS).set (l.length - 1) ⟨(l.getD (l.length - 1) default).lo, (l.getD (l.length - 1) default).hi - (l.getD (l.length - 1) default).lo + ((l.getD 0 default).hi - (l.getD 0 default).lo + 1)⟩).drop 1 = arcsF l := by
  unfold arcsF
  rw [if_pos h]
  unfold around at h
  simp only [Bool.and_eq_true, decide_eq_true_eq] at h
  obtain ⟨⟨h1, h2⟩, _⟩ := h
  match l, h1, h2 with
  | s :: t :: l, _, h2 =>
    have h2' : s.lo = 0 := h2
    have e := bumpF_set s.hi (t :: l) (by simp)
    simp only [List.length_cons, Nat.add_sub_cancel] at e ⊢
    simp only [List.map_cons, List.getD_cons_succ, List.getD_cons_zero, List.set_cons_succ, List.drop_succ_cons, List.drop_zero] at e ⊢
    rw [← e, h2']
    congr 2
    omega
def angF (a : Int) : Int := a % 43200
def aheadF (a b : Int) : Int := angF (angF b - angF a)
def apartF (a b : Int) : Int := min (aheadF a b) (aheadF b a)
def hasF (x : Arc) (a : Int) : Bool := validA x && decide (aheadF x.from_ a ≤ x.len)
theorem angF_bd (a : Int) : 0 ≤ angF a ∧ angF a < 43200 := ⟨Int.emod_nonneg _ (by decide), Int.emod_lt_of_pos _ (by decide)⟩
theorem ang_prog (a : Int) : (a.tmod 43200 + 43200).tmod 43200 = angF a := by
  unfold angF
  have h1 := Int.tmod_lt_of_pos a (b := 43200) (by decide)
  have h2 : -43200 < a.tmod 43200 := by
    have := Int.lt_tmod_of_pos a (b := 43200) (by decide)
    omega
  have h3 : (a.tmod 43200) % 43200 = a % 43200 := by
    have := Int.mul_tdiv_add_tmod a 43200
    omega
  rw [Int.tmod_eq_emod_of_nonneg (by omega)]
  omega
def wideF (x : Arc) (n : Int) : Arc := if 43199 ≤ x.len + 2 * n then ⟨0, 43199⟩ else ⟨angF (x.from_ - n), x.len + 2 * n⟩
theorem wide_valid {x : Arc} {n : Int} (h : validA x = true) (hn : 0 ≤ n) : validA (wideF x n) = true := by
  obtain ⟨h1, h2, h3, h4, h5⟩ := validA_iff.1 h
  unfold wideF
  split
  · decide
  · refine validA_iff.2 ⟨(angF_bd _).1, (angF_bd _).2, by dsimp only; omega, by dsimp only; omega, .inl (by dsimp only; omega)⟩
end Go.Proofs.Ds
