/-
  Contracts of functions, proved by going through their code. No conditions.
-/
import Derived.Test.YtkdiplkmcilkmaaGreatDoorTTxA
set_option linter.unusedVariables false
set_option linter.unusedSimpArgs false
namespace Go.Tx
open Go
def isDig (c : UInt8) : Prop := 48 ≤ c.toNat ∧ c.toNat ≤ 57
instance (c : UInt8) : Decidable (isDig c) := by unfold isDig; exact inferInstance
def valD (acc : Nat) (l : List UInt8) : Nat := l.foldl (fun a c => 10 * a + (c.toNat - 48)) acc
theorem valD_app (acc : Nat) (a b : List UInt8) : valD acc (a ++ b) = valD (valD acc a) b := by unfold valD; rw [List.foldl_append]
theorem valD_dec : ∀ (k u : Nat), u ≤ k → valD 0 (Lib.decDigits u) = u
  | k, u, hk => by
    rw [Lib.decDigits]
    split
    · rename_i hu
      simp only [valD, List.foldl_cons, List.foldl_nil, dig_toNat u hu]; omega
    · rename_i hu
      obtain ⟨k, rfl⟩ : ∃ j, k = j + 1 := ⟨k - 1, by omega⟩
      rw [valD_app, valD_dec k (u / 10) (by omega)]
      simp only [valD, List.foldl_cons, List.foldl_nil, dig_toNat _ (Nat.mod_lt u (by decide : 0 < 10))]; omega
theorem nDigits_le : ∀ (k u : Nat), u < 10 ^ (k + 1) → Lib.nDigits u ≤ k + 1
  | k, u, h => by
    by_cases hu : u < 10
    · rw [Lib.nDigits_small hu]; omega
    · rw [Lib.nDigits_big hu]
      cases k with
      | zero => exact absurd (by simpa using h) hu
      | succ k =>
        have := nDigits_le k (u / 10) (by rw [Nat.pow_succ] at h; omega)
        omega
def digG (l : List UInt8) : Nat → Nat → Nat → Nat × Nat
  | 0, at_, n => (n, at_)
  | k + 1, at_, n => if at_ < l.length ∧ isDig (l.getD at_ 0) then digG l k (at_ + 1) (10 * n + ((l.getD at_ 0).toNat - 48)) else (n, at_)
theorem digG_le (l : List UInt8) : ∀ (k at_ n : Nat), at_ ≤ (digG l k at_ n).2
  | 0, _, _ => Nat.le_refl _
  | k + 1, at_, n => by
    unfold digG
    split
    · exact Nat.le_trans (Nat.le_succ _) (digG_le l k _ _)
    · exact Nat.le_refl _
theorem digG_run (l : List UInt8) : ∀ (D : List UInt8) (k at_ n : Nat) (r : List UInt8), D.length ≤ k → (∀ c ∈ D, isDig c) → l.drop at_ = D ++ r → (∀ c, r.head? = some c → ¬ isDig c) → digG l k at_ n = (valD n D, at_ + D.length)
  | [], 0, at_, n, r, _, _, _, _ => rfl
  | [], k + 1, at_, n, r, _, _, hd, hr => by
    unfold digG
    rw [if_neg]
    · rfl
    · rintro ⟨h1, h2⟩
      rw [List.drop_eq_getElem_cons h1] at hd
      refine hr l[at_] ?_ ?_
      · rw [← hd.trans (List.nil_append r)]; rfl
      · rw [List.getD_eq_getElem?_getD, List.getElem?_eq_getElem h1] at h2; exact h2
  | d :: D, 0, at_, n, r, h, _, _, _ => by simp at h
  | d :: D, k + 1, at_, n, r, h, hD, hd, hr => by
    have h1 : at_ < l.length := by
      rcases Nat.lt_or_ge at_ l.length with h | h
      · exact h
      · rw [List.drop_eq_nil_of_le h] at hd; simp at hd
    have hd0 := hd
    rw [List.drop_eq_getElem_cons h1, List.cons_append] at hd
    injection hd with e1 e2
    have hg : l.getD at_ 0 = d := by rw [List.getD_eq_getElem?_getD, List.getElem?_eq_getElem h1]; exact e1
    unfold digG
    rw [hg, if_pos ⟨h1, hD d (by simp)⟩, digG_run l D k (at_ + 1) _ r (by simpa using h) (fun c hc => hD c (by simp [hc])) e2 hr]
    simp only [valD, List.foldl_cons, List.length_cons]
    congr 1; omega
def numR (s : ByteArray) (at_ : Nat) : Int × Nat := if (digG (bl s) 5 at_ 0).2 = at_ then (-1, at_) else ((digG (bl s) 5 at_ 0).1, (digG (bl s) 5 at_ 0).2)
theorem numR_le (s : ByteArray) (at_ : Nat) : at_ ≤ (numR s at_).2 := by
  unfold numR
  split
  · exact Nat.le_refl _
  · exact digG_le _ _ _ _
theorem digG_up (l : List UInt8) : ∀ (k at_ n : Nat), (digG l k at_ n).2 ≤ max at_ l.length
  | 0, _, _ => Nat.le_max_left _ _
  | k + 1, at_, n => by
    unfold digG
    split
    · rename_i h
      have := digG_up l k (at_ + 1) (10 * n + ((l.getD at_ 0).toNat - 48))
      omega
    · exact Nat.le_max_left _ _
theorem numR_up (s : ByteArray) (at_ : Nat) : (numR s at_).2 ≤ max at_ s.size := by
  unfold numR
  split
  · exact Nat.le_max_left _ _
  · have := digG_up (bl s) 5 at_ 0
    rw [bl_len] at this; exact this
theorem numR_run (s : ByteArray) (at_ u : Nat) (hu : u < 100000) (r : List UInt8) (hd : (bl s).drop at_ = Lib.decDigits u ++ r) (hr : ∀ c, r.head? = some c → ¬ isDig c) : numR s at_ = ((u : Int), at_ + (Lib.decDigits u).length) := by
  have hl : (Lib.decDigits u).length ≤ 5 := by rw [Lib.decDigits_length]; exact nDigits_le 4 u hu
  have h := digG_run (bl s) (Lib.decDigits u) 5 at_ 0 r hl (fun c hc => dec_digit u u (Nat.le_refl _) c hc) hd hr
  have hp : 0 < (Lib.decDigits u).length := List.length_pos_iff.2 (dec_ne u)
  unfold numR
  rw [h, valD_dec u u (Nat.le_refl _), if_neg (by dsimp only; omega)]
def bitsOf (c : UInt8) (w : Nat → UInt8) : Nat → Nat
  | 0 => 0
  | k + 1 => if w k = c then bitsOf c w k ||| 1 <<< k else bitsOf c w k
theorem bitsOf_test (c : UInt8) (w : Nat → UInt8) : ∀ (n i : Nat), (bitsOf c w n).testBit i = (decide (i < n) && decide (w i = c))
  | 0, i => by simp [bitsOf]
  | n + 1, i => by
    unfold bitsOf
    have ih := bitsOf_test c w n i
    split
    · rename_i h
      rw [Nat.testBit_or, ih, Nat.one_shiftLeft, Nat.testBit_two_pow]
      by_cases hi : i = n
      · subst hi; simp [h]
      · have h1 : ¬ n = i := fun e => hi e.symm
        by_cases h2 : i < n
        · have : i < n + 1 := by omega
          simp [h1, h2, this]
        · have : ¬ i < n + 1 := by omega
          simp [h1, h2, this]
    · rename_i h
      rw [ih]
      by_cases hi : i = n
      · subst hi; simp [h]
      · by_cases h2 : i < n
        · have : i < n + 1 := by omega
          simp [h2, this]
        · have : ¬ i < n + 1 := by omega
          simp [h2, this]
theorem bitsOf_lt (c : UInt8) (w : Nat → UInt8) : ∀ n, bitsOf c w n < 2 ^ n
  | 0 => by simp [bitsOf]
  | n + 1 => by
    have ih := bitsOf_lt c w n
    unfold bitsOf
    split
    · refine Nat.or_lt_two_pow (by rw [Nat.pow_succ]; omega) ?_
      rw [Nat.one_shiftLeft]
      exact Nat.pow_lt_pow_right (by decide) (by omega)
    · rw [Nat.pow_succ]; omega
theorem bitsOf_eq (c : UInt8) (w : Nat → UInt8) (n p : Nat) (hp : p < 2 ^ n) (h : ∀ i, i < n → (w i = c ↔ p.testBit i = true)) : bitsOf c w n = p := by
  refine Nat.eq_of_testBit_eq fun i => ?_
  rw [bitsOf_test]
  by_cases hi : i < n
  · have := h i hi
    by_cases hw : w i = c
    · simp [hi, hw, this.1 hw]
    · have hf : p.testBit i = false := by
        cases hb : p.testBit i with
        | false => rfl
        | true => exact absurd (this.2 hb) hw
      simp [hw, hf]
  · have : p < 2 ^ i := Nat.lt_of_lt_of_le hp (Nat.pow_le_pow_right (by decide) (by omega))
    rw [Nat.testBit_lt_two_pow this]
    simp [hi]
end Go.Tx
