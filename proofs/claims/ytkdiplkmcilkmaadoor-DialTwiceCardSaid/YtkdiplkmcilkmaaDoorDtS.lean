/-
  Contracts of functions, proved by going through their code. No conditions.
-/
import Derived.Test.YtkdiplkmcilkmaaDoorDtR
set_option linter.unusedVariables false
set_option linter.unusedSimpArgs false
namespace Go.Proofs.Ds
open Go Go.Pg Go.Proofs
theorem pairs_mem (m : Mark) (i : Ink) : ∀ (l : List Key) (j r : Nat), j + r + 1 < l.length → pairOK (l.getD j default) (l.getD (j + r + 1) default) m i = true → ((l.getD j default).id, (l.getD (j + r + 1) default).id) ∈ pairsF l m i
  | [], j, r, h, _ => by simp at h
  | a :: l, 0, r, h, hp => by
    unfold pairsF
    refine List.mem_append.2 (.inl ?_)
    unfold pairsOf
    have e : (a :: l).getD (0 + r + 1) default = l.getD r default := by rw [Nat.zero_add, List.getD_cons_succ]
    rw [e, List.getD_cons_zero] at hp
    rw [e, List.getD_cons_zero]
    refine List.mem_map.2 ⟨l.getD r default, List.mem_filter.2 ⟨?_, hp⟩, rfl⟩
    simp only [List.length_cons] at h
    rw [List.getD_eq_getElem?_getD, List.getElem?_eq_getElem (by omega)]
    exact List.getElem_mem (by omega)
  | a :: l, j + 1, r, h, hp => by
    unfold pairsF
    refine List.mem_append.2 (.inr ?_)
    have e : (a :: l).getD (j + 1 + r + 1) default = l.getD (j + r + 1) default := by rw [show j + 1 + r + 1 = (j + r + 1) + 1 by omega, List.getD_cons_succ]
    rw [e, List.getD_cons_succ] at hp ⊢
    simp only [List.length_cons] at h
    exact pairs_mem m i l j r (by omega) hp
def anyP (l : List (Int × Int)) (a b : Int) : Bool := l.any fun p => p.1 == a && p.2 == b
theorem pair_there {l : List Key} {m : Mark} {i : Ink} (hb : bunchF l = true) {x y : Nat} (hx : x < l.length) (hy : y < l.length) (hne : (l.getD x default).id ≠ (l.getD y default).id) (ht : (l.getD x default).track = (l.getD y default).track)
    (h : madeF ⟨0, (l.getD x default).track, (((l.getD x default).pat.toNat ||| (l.getD y default).pat.toNat : Nat) : Int)⟩ m i = true) : anyP (pairsF l m i) (min (l.getD x default).id (l.getD y default).id) (max (l.getD x default).id (l.getD y default).id) = true := by
  unfold anyP
  rw [List.any_eq_true]
  rcases Nat.lt_trichotomy x y with g | g | g
  · have h1 := bunch_inc hb x (y - x - 1) (by omega)
    have e : x + (y - x - 1) + 1 = y := by omega
    rw [e] at h1
    have h2 := pairs_mem m i l x (y - x - 1) (by omega) (by rw [e]; unfold pairOK; rw [Bool.and_eq_true]; exact ⟨decide_eq_true ht, h⟩)
    rw [e] at h2
    exact ⟨_, h2, by dsimp only; rw [Int.min_eq_left (by omega), Int.max_eq_right (by omega)]; simp⟩
  · subst g; exact absurd rfl hne
  · have h1 := bunch_inc hb y (x - y - 1) (by omega)
    have e : y + (x - y - 1) + 1 = x := by omega
    rw [e] at h1
    have h2 := pairs_mem m i l y (x - y - 1) (by omega) (by rw [e]; unfold pairOK; rw [Bool.and_eq_true]; exact ⟨decide_eq_true ht.symm, by rw [← ht, Nat.or_comm]; exact h⟩)
    rw [e] at h2
    exact ⟨_, h2, by dsimp only; rw [Int.min_eq_right (by omega), Int.max_eq_left (by omega)]; simp⟩
theorem pairsOf_len (a : Key) (l : List Key) (m : Mark) (i : Ink) : (pairsOf a l m i).length ≤ l.length := by
  unfold pairsOf
  rw [List.length_map]
  exact List.length_filter_le _ _
theorem pairs_len (m : Mark) (i : Ink) : ∀ l : List Key, (pairsF l m i).length ≤ l.length * l.length
  | [] => Nat.zero_le _
  | a :: l => by
    unfold pairsF
    have h1 := pairsOf_len a l m i
    have h2 := pairs_len m i l
    rw [List.length_append, List.length_cons, Nat.add_mul, Nat.mul_add]
    omega
end Go.Proofs.Ds
