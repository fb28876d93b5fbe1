/-
  Contracts of functions, proved by going through their code. No conditions.
-/
import Derived.Test.YtkdiplkmcilkmaaDoorDtR
import Derived.Test.YtkdiplkmcilkmaaDoorDtL
set_option linter.unusedVariables false
set_option linter.unusedSimpArgs false
namespace Go.Proofs.Ds
open Go Go.Pg Go.Proofs
theorem ckN_zero (l : List Key) (i : Ink) : ∀ (r k : Nat), (ckN l i k r).1 = 0 → ∀ j, k ≤ j → j < k + r → ckE l i j = 0
  | 0, k, _, j, h1, h2 => by omega
  | r + 1, k, h, j, h1, h2 => by
    rw [ckN] at h
    by_cases g : ckE l i k = 0
    · rw [if_neg (by simp [g])] at h
      by_cases e : j = k
      · rw [e]; exact g
      · exact ckN_zero l i r (k + 1) h j (by omega) (by omega)
    · rw [if_pos g] at h; exact absurd h g
theorem ckN_all (l : List Key) (i : Ink) : ∀ (r k : Nat), (∀ j, k ≤ j → j < k + r → ckE l i j = 0) → ckN l i k r = (0, -1)
  | 0, k, _ => rfl
  | r + 1, k, h => by
    rw [ckN, if_neg (by rw [h k (by omega) (by omega)]; simp)]
    exact ckN_all l i r (k + 1) fun j h1 h2 => h j (by omega) (by omega)
structure Cab (l : List Key) (i : Ink) : Prop where
  ink : inkV i = true
  len : l.length ≤ 40
  key : ∀ j, j < l.length → keyV (l.getD j default) = true
  inc : ∀ j, 0 < j → j < l.length → (l.getD (j - 1) default).id < (l.getD j default).id
  conf : ∀ j, j < l.length → (l.take j).any (fun y => confR y (l.getD j default) i) = false
theorem ckE_zero {l : List Key} {i : Ink} {k : Nat} : ckE l i k = 0 ↔ keyV (l.getD k default) = true ∧ (0 < k → (l.getD (k - 1) default).id < (l.getD k default).id) ∧ (l.take k).any (fun y => confR y (l.getD k default) i) = false := by
  unfold ckE
  cases h1 : keyV (l.getD k default) with
  | false => rw [if_pos rfl]; exact ⟨(fun h => by cases h), (fun h => by cases h.1)⟩
  | true =>
    rw [if_neg (by decide)]
    by_cases h2 : 0 < k ∧ (l.getD k default).id ≤ (l.getD (k - 1) default).id
    · rw [if_pos h2]
      exact ⟨(fun h => by cases h), (fun h => by have := h.2.1 h2.1; omega)⟩
    · rw [if_neg h2]
      cases h3 : (l.take k).any (fun y => confR y (l.getD k default) i) with
      | true => rw [if_pos rfl]; exact ⟨(fun h => by cases h), (fun h => by cases h.2.2)⟩
      | false => rw [if_neg (by decide)]; exact ⟨(fun _ => ⟨rfl, (fun h => by omega), rfl⟩), (fun _ => rfl)⟩
theorem cab_of {l : List Key} {i : Ink} (h : (ckF l i).1 = 0) : Cab l i := by
  unfold ckF at h
  cases hi : inkV i with
  | false => rw [hi, if_pos rfl] at h; cases h
  | true =>
    rw [hi, if_neg (by decide)] at h
    by_cases h4 : 40 < l.length
    · rw [if_pos h4] at h; cases h
    · rw [if_neg h4] at h
      have hz := fun j (hj : j < l.length) => ckE_zero.1 (ckN_zero l i _ 0 h j (by omega) (by omega))
      exact ⟨hi, by omega, fun j hj => (hz j hj).1, fun j h0 hj => (hz j hj).2.1 h0, fun j hj => (hz j hj).2.2⟩
theorem cab_to {l : List Key} {i : Ink} (h : Cab l i) : ckF l i = (0, -1) := by
  unfold ckF
  rw [h.ink, if_neg (by decide), if_neg (by have := h.len; omega)]
  exact ckN_all l i _ 0 fun j _ hj => ckE_zero.2 ⟨h.key j (by omega), fun h0 => h.inc j h0 (by omega), h.conf j (by omega)⟩
theorem cab_bunch {l : List Key} {i : Ink} (h : Cab l i) : bunchF l = true := by
  have : ∀ r k, k + r ≤ l.length → bunchN l k r = true := by
    intro r
    induction r with
    | zero => intro k _; rfl
    | succ r ih =>
      intro k hk
      rw [bunchN, ih (k + 1) (by omega), Bool.and_true]
      unfold okK
      rw [h.key k (by omega), Bool.true_and, Bool.or_eq_true, decide_eq_true_eq, decide_eq_true_eq]
      by_cases e : k = 0
      · exact .inl e
      · exact .inr (h.inc k (by omega) (by omega))
  unfold bunchF
  rw [Bool.and_eq_true, decide_eq_true_eq]
  exact ⟨h.len, this _ 0 (by omega)⟩
theorem getD_mem {l : List Key} {j : Nat} (h : j < l.length) : l.getD j default ∈ l := by
  rw [List.getD_eq_getElem?_getD, List.getElem?_eq_getElem h]; exact List.getElem_mem h
theorem getD_eq {l : List Key} {j : Nat} (h : j < l.length) : l.getD j default = l[j] := by
  rw [List.getD_eq_getElem?_getD, List.getElem?_eq_getElem h]; rfl
theorem cab_pair {l : List Key} {i : Ink} (h : Cab l i) {j k : Nat} (hj : j < k) (hk : k < l.length) : confR (l.getD j default) (l.getD k default) i = false := by
  have := h.conf k hk
  rw [List.any_eq_false] at this
  have h2 := this (l.getD j default) (by
    rw [getD_eq (by omega)]
    exact List.mem_take_iff_getElem.2 ⟨j, by omega, rfl⟩)
  simpa using h2
theorem cntK_or {p q r : Nat} : ∀ n, (∀ k, k < n → p.testBit k = true → q.testBit k = true ∨ r.testBit k = true) → cntK p n ≤ cntK q n + cntK r n
  | 0, _ => Nat.zero_le _
  | n + 1, h => by
    have ih := cntK_or n fun k hk => h k (by omega)
    have h1 := h n (by omega)
    unfold cntK
    cases hp : p.testBit n <;> cases hq : q.testBit n <;> cases hr : r.testBit n <;> simp_all <;> omega
theorem made_conf {a b : Key} {m : Mark} {i : Ink} (ka : keyV a = true) (kb : keyV b = true) (hi : inkV i = true) (hc : (m.seen.toNat ||| m.blank.toNat) = 4095) (ha : madeF a m i = true) (hb : madeF b m i = true) : confR a b i = true := by
  unfold madeF allowI at ha hb
  simp only [Bool.and_eq_true, decide_eq_true_eq] at ha hb
  have key : ∀ x y : Nat, cntF (dropB x y) ≤ cntF (x &&& m.blank.toNat) + cntF (dropB m.seen.toNat y) := fun x y => by
    refine cntK_or 12 fun k hk hp => ?_
    rw [dropB_bit] at hp
    have hf := full_bit hk
    rw [← hc, Nat.testBit_or] at hf
    rw [Nat.testBit_and, dropB_bit]
    cases h1 : x.testBit k <;> cases h2 : y.testBit k <;> cases h3 : m.seen.toNat.testBit k <;> cases h4 : m.blank.toNat.testBit k <;> simp_all
  have k1 := key a.pat.toNat b.pat.toNat
  have k2 := key b.pat.toNat a.pat.toNat
  unfold confR
  rw [confV_iff.2 ⟨ka, kb, hi, by omega⟩, Bool.true_and, Bool.and_eq_true, decide_eq_true_eq, decide_eq_true_eq]
  omega
theorem filter_one {P : Key → Bool} : ∀ {l : List Key}, l.Pairwise (fun a b => ¬ (P a = true ∧ P b = true)) → (l.filter P).length ≤ 1
  | [], _ => Nat.zero_le _
  | a :: l, h => by
    rw [List.pairwise_cons] at h
    rw [List.filter_cons]
    split
    · rename_i ha
      have : l.filter P = [] := List.filter_eq_nil_iff.2 fun b hb hp => h.1 b hb ⟨ha, hp⟩
      rw [this]; exact Nat.le_refl _
    · exact filter_one h.2
theorem makers_one {l : List Key} {m : Mark} {i : Ink} (h : Cab l i) (hc : (m.seen.toNat ||| m.blank.toNat) = 4095) : (makersF l m i).length ≤ 1 := by
  unfold makersF
  rw [List.length_map]
  refine filter_one (List.pairwise_iff_getElem.2 fun j k hj hk hjk => ?_)
  rintro ⟨ha, hb⟩
  have h1 := cab_pair h hjk hk
  have h2 := made_conf (h.key j hj) (h.key k hk) h.ink hc (m := m) (i := i) (by rw [getD_eq hj]; exact ha) (by rw [getD_eq hk]; exact hb)
  rw [h1] at h2; cases h2
theorem riv_zero {p : Key → Bool} (hp : ∀ x, p x = true → x.id ≠ 0) : ∀ {l : List Key}, rivG p l = 0 → ∀ x ∈ l, p x = false
  | [], _, x, hx => by cases hx
  | y :: l, h, x, hx => by
    unfold rivG at h
    cases hy : p y with
    | true => rw [hy, if_pos rfl] at h; exact absurd h (hp y hy)
    | false =>
      rw [hy, if_neg (by decide)] at h
      rcases List.mem_cons.1 hx with rfl | hx
      · exact hy
      · exact riv_zero hp h x hx
theorem prop_cases (l : List Key) (tr : Int) (i : Ink) : ∀ (r q : Nat), propN l tr i q r = (0, 5) ∨ ∃ v : Nat, propN l tr i q r = ((v : Int), 0) ∧ q ≤ v ∧ v < q + r ∧ rivalF l ⟨1, tr, ((v : Nat) : Int)⟩ i = 0
  | 0, q => .inl rfl
  | r + 1, q => by
    rw [propN]
    by_cases g : rivalF l ⟨1, tr, ((q : Nat) : Int)⟩ i = 0
    · rw [if_pos g]; exact .inr ⟨q, rfl, Nat.le_refl _, by omega, g⟩
    · rw [if_neg g]
      rcases prop_cases l tr i r (q + 1) with h | ⟨v, h1, h2, h3, h4⟩
      · exact .inl h
      · exact .inr ⟨v, h1, by omega, by omega, h4⟩
theorem conf_other {x : Key} {d tr p : Int} {i : Ink} (hd : 1 ≤ d ∧ d ≤ 1099511627776) : confR x ⟨d, tr, p⟩ i = confR x ⟨1, tr, p⟩ i := by
  have e : keyV ⟨d, tr, p⟩ = keyV ⟨1, tr, p⟩ := by
    unfold keyV
    rw [inF_iff.2 hd, inF_iff.2 (by decide : (1 : Int) ≤ 1 ∧ (1 : Int) ≤ 1099511627776)]
  unfold confR confV
  rw [e]
theorem cab_more {l : List Key} {i : Ink} (h : Cab l i) (hl : l.length < 40) {d tr : Int} {v : Nat} (hd : 1 ≤ d ∧ d ≤ 1099511627776) (ht : 0 ≤ tr ∧ tr ≤ 3) (hv : 1 ≤ v ∧ v ≤ 4095) (hlast : ∀ x ∈ l, x.id < d) (hr : rivalF l ⟨1, tr, ((v : Nat) : Int)⟩ i = 0) : ckF (l ++ [⟨d, tr, ((v : Nat) : Int)⟩]) i = (0, -1) := by
  have hno := riv_zero (fun x hx => conf_id hx) hr
  have hl1 : (l ++ [(⟨d, tr, ((v : Nat) : Int)⟩ : Key)]).length = l.length + 1 := by rw [List.length_append, List.length_singleton]
  have g1 : ∀ j, j < l.length → (l ++ [(⟨d, tr, ((v : Nat) : Int)⟩ : Key)]).getD j default = l.getD j default := fun j hj => by
    rw [List.getD_eq_getElem?_getD, List.getElem?_append_left hj, ← List.getD_eq_getElem?_getD]
  have g2 : (l ++ [(⟨d, tr, ((v : Nat) : Int)⟩ : Key)]).getD l.length default = ⟨d, tr, ((v : Nat) : Int)⟩ := by
    rw [List.getD_eq_getElem?_getD, List.getElem?_append_right (Nat.le_refl _), Nat.sub_self]; rfl
  refine cab_to ⟨h.ink, by omega, fun j hj => ?_, fun j h0 hj => ?_, fun j hj => ?_⟩
  · rcases Nat.lt_or_ge j l.length with g | g
    · rw [g1 j g]; exact h.key j g
    · rw [show j = l.length by omega, g2]
      exact keyV_iff.2 ⟨hd, ht, by dsimp only; omega, by dsimp only; omega⟩
  · rcases Nat.lt_or_ge j l.length with g | g
    · rw [g1 j g, g1 (j - 1) (by omega)]; exact h.inc j h0 g
    · rw [show j = l.length by omega, g2, g1 (l.length - 1) (by omega)]
      exact hlast _ (getD_mem (by omega))
  · rcases Nat.lt_or_ge j l.length with g | g
    · rw [g1 j g, List.take_append_of_le_length (by omega)]; exact h.conf j g
    · rw [show j = l.length by omega, g2, List.take_append_of_le_length (Nat.le_refl _), List.take_length, List.any_eq_false]
      intro x hx
      rw [conf_other hd, hno x hx]
      decide
theorem last_lt {l : List Key} (hb : bunchF l = true) (hl : 0 < l.length) : ∀ x ∈ l, x.id < (l.getD (l.length - 1) default).id + 1 := fun x hx => by
  obtain ⟨j, hj, rfl⟩ := List.mem_iff_getElem.1 hx
  rw [← getD_eq hj]
  rcases Nat.lt_or_ge j (l.length - 1) with g | g
  · have := bunch_inc hb j (l.length - 1 - j - 1) (by omega)
    rw [show j + (l.length - 1 - j - 1) + 1 = l.length - 1 by omega] at this
    omega
  · rw [show j = l.length - 1 by omega]; omega
end Go.Proofs.Ds
