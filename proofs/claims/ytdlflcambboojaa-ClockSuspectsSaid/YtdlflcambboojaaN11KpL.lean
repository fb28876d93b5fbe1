/-
  Contracts of functions, proved by going through their code. No conditions.
-/
import Derived.Test.YtdlflcambboojaaSaa
import Derived.Test.YtdlflcambboojaaSbd
import Derived.Test.YtdlflcambboojaaN11KpA
set_option linter.unusedVariables false
set_option linter.unusedSimpArgs false
namespace Go.Proofs.Ks
open Go Go.Pg Go.Proofs
theorem unseen_nar (r : Rec) (k : Nat) : Nar (unseenR r k) r :=
  ⟨inS_refl _, inS_refl _, inS_refl _, inS_refl _, inS_refl _, narS_refl _, rfl, fun j a b ha hb => by
    have e : (unseenR r k).strikes[j]? = r.strikes[j]? := rfl
    rw [e, hb] at ha
    injection ha with ha
    subst ha
    exact inS_refl _, fun y hy => by
    have hy' : y ∈ r.sights.take k ++ r.sights.drop (k + 1) := hy
    rcases List.mem_append.1 hy' with h | h
    · exact List.mem_of_mem_take h
    · exact List.mem_of_mem_drop h⟩
theorem unseen_cons {r : Rec} (hc : checkE r = 0) (hq : consP r [] = true) (k : Nat) : consP (unseenR r k) [] = true :=
  (nar_spans (unseen_nar r k) (unseen_zero hc k) hc hq).1
def lessF (r : Rec) (n k : Nat) : Span := spanF (nodesR (unseenR r k) []) (linksR (unseenR r k) []) 0 (3 + n)
def ownF (r : Rec) (n : Nat) : Span := spanF (nodesR r []) (linksR r []) 0 (3 + n)
def neF (r : Rec) (n k : Nat) : List Int := ((List.range k).filter fun i => !decide (lessF r n i = ownF r n)).map fun (i : Nat) => (i : Int)
theorem neF_succ (r : Rec) (n k : Nat) : neF r n (k + 1) = neF r n k ++ (if lessF r n k = ownF r n then [] else [(k : Int)]) := by
  unfold neF
  rw [List.range_succ, List.filter_append, List.map_append]
  congr 1
  by_cases hq : lessF r n k = ownF r n <;> simp [hq]
theorem neF_len (r : Rec) (n k : Nat) : (neF r n k).length ≤ k := by
  unfold neF
  rw [List.length_map]
  exact Nat.le_trans (List.length_filter_le _ _) (by simp)
def insL (l : List Int) : List Int := l.foldl (fun m x => insI x m) []
theorem insL_snoc (l : List Int) (x : Int) : insL (l ++ [x]) = insI x (insL l) := by unfold insL; rw [List.foldl_append]; rfl
theorem insL_mem (a : Int) (l : List Int) : a ∈ insL l ↔ a ∈ l := by
  have key : ∀ (l m : List Int), a ∈ l.foldl (fun m x => insI x m) m ↔ a ∈ l ∨ a ∈ m := by
    intro l
    induction l with
    | nil => intro m; simp
    | cons x l ih =>
      intro m
      rw [List.foldl_cons, ih, insI_mem, List.mem_cons]
      constructor
      · rintro (h | h | h)
        · exact .inl (.inr h)
        · exact .inl (.inl h)
        · exact .inr h
      · rintro ((h | h) | h)
        · exact .inr (.inl h)
        · exact .inl h
        · exact .inr (.inr h)
  rw [insL, key]; simp
theorem insL_sorted (l : List Int) : (insL l).Pairwise (· < ·) := by
  have key : ∀ (l m : List Int), m.Pairwise (· < ·) → (l.foldl (fun m x => insI x m) m).Pairwise (· < ·) := by
    intro l
    induction l with
    | nil => intro m h; exact h
    | cons x l ih => intro m h; exact ih _ (insI_sorted h)
  exact key l [] List.Pairwise.nil
theorem insL_len (l : List Int) : (insL l).length ≤ l.length := by
  have key : ∀ (l m : List Int), (l.foldl (fun m x => insI x m) m).length ≤ l.length + m.length := by
    intro l
    induction l with
    | nil => intro m; simp
    | cons x l ih =>
      intro m
      have := ih (insI x m)
      have := insI_len x m
      simp only [List.foldl_cons, zD]
      omega
  have := key l []
  simpa [insL] using this
theorem insL_sort {l : List Int} (h : l.Pairwise (· ≠ ·)) : insL l = l.mergeSort fun x y => decide (x ≤ y) := by
  have hs : (l.mergeSort fun x y => decide (x ≤ y)).Pairwise (fun x y => decide (x ≤ y) = true) := List.pairwise_mergeSort (le := fun (x y : Int) => decide (x ≤ y)) (fun a b c h1 h2 => by simp only [decide_eq_true_eq] at h1 h2 ⊢; omega) (fun a b => by simp only [Bool.or_eq_true, decide_eq_true_eq]; omega) l
  have hn : (l.mergeSort fun x y => decide (x ≤ y)).Pairwise (· ≠ ·) := ((List.mergeSort_perm l _).pairwise_iff (fun h => Ne.symm h)).2 h
  refine sorted_ext (insL_sorted l) ?_ (fun x => by rw [insL_mem, List.mem_mergeSort])
  refine (List.Pairwise.and hs hn).imp ?_
  rintro a b ⟨h1, h2⟩
  have := of_decide_eq_true h1
  omega
theorem stF_ne {r : Rec} (hv : r.V) (k : Nat) : (stF r k).Pairwise (· ≠ ·) := by
  have h := hv.ids
  unfold stF
  have h1 : (((r.strikes.take k).filter fun x => consP (withoutR r [x.id]) []).map (·.id)).Sublist (r.strikes.map (·.id)) := List.Sublist.map _ (List.filter_sublist.trans (List.take_sublist _ _))
  exact List.Pairwise.sublist h1 h
theorem susp_sort {r : Rec} (hc : checkE r = 0) : insL (stF r r.strikes.length) = (suspP r).1 := insL_sort (stF_ne (checkE_V hc) _)
end Go.Proofs.Ks
