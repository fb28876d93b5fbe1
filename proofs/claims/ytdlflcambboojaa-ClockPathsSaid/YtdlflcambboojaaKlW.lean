/-
  Contracts of functions, proved by going through their code. No conditions.
-/
import Derived.Test.YtdlflcambboojaaKaa
import Derived.Test.YtdlflcambboojaaKlV
import Derived.Test.YtdlflcambboojaaKuD
set_option linter.unusedVariables false
set_option linter.unusedSimpArgs false
namespace Go.Proofs.Ks
open Go Go.Pg Go.Proofs
def itB (L : List Lk) (b : List Int) (v : Nat) : Nat → Nat
  | 0 => v
  | j + 1 => (lkAt L (b.getD (itB L b v j) 0)).a
theorem itB_in (L : List Lk) (b : List Int) (v : Nat) : ∀ j, itB L b (lkAt L (b.getD v 0)).a j = itB L b v (j + 1)
  | 0 => rfl
  | j + 1 => by
    show (lkAt L (b.getD (itB L b (lkAt L (b.getD v 0)).a j) 0)).a = (lkAt L (b.getD (itB L b v (j + 1)) 0)).a
    rw [itB_in L b v j]
section
variable {L : List Lk} {n : Nat} {d b : List Int} {t : Nat → Nat} {k : Nat}
theorem Bf.link (h : Bf L n d b t (n * L.length) k) {v : Nat} (hv : v < n) (ht : 0 < t v) : (0 ≤ b.getD v 0 ∧ b.getD v 0 < (L.length : Int)) ∧ lkAt L (b.getD v 0) ∈ L ∧ okB L b (v : Int) = true := by
  have hb : 0 ≤ b.getD v 0 ∧ b.getD v 0 < (L.length : Int) := by
    rcases h.never v hv with e | e
    · omega
    · exact e
  refine ⟨hb, (lkAt_get hb).2.2, ?_⟩
  unfold okB
  rw [Int.toNat_natCast, h.lenb]
  simp only [Bool.and_eq_true, decide_eq_true_eq]
  exact ⟨by omega, by omega, hb⟩
theorem Bf.chain (h : Bf L n d b t (n * L.length) k) (hL : ∀ l ∈ L, l.a < n ∧ l.b < n) {v : Nat} (hv : v < n) (ht : n * L.length < t v) : ∀ j, j ≤ n → itB L b v j < n ∧ (n - j) * L.length < t (itB L b v j)
  | 0, _ => ⟨hv, ht⟩
  | j + 1, hj => by
    obtain ⟨h1, h2⟩ := h.chain hL hv ht j (by omega)
    have ht0 : 0 < t (itB L b v j) := by omega
    obtain ⟨_, h4, _⟩ := h.link h1 ht0
    refine ⟨(hL _ h4).1, ?_⟩
    have h5 := h.late _ h1 ht0
    have e : (n - j) * L.length = (n - (j + 1)) * L.length + L.length := by
      rw [show n - j = (n - (j + 1)) + 1 by omega, Nat.succ_mul]
    show (n - (j + 1)) * L.length < t (lkAt L (b.getD (itB L b v j) 0)).a
    omega
def gB (L : List Lk) (b : List Int) (c : Nat) (i : Nat) : Int := b.getD (itB L b c i) 0
def sumB (L : List Lk) (b : List Int) (c : Nat) : Nat → Int
  | 0 => 0
  | m + 1 => sumB L b c m + (lkAt L (gB L b c m)).m
theorem walk_chain {c P : Nat} (hin : ∀ j, j < P → (0 ≤ gB L b c j ∧ gB L b c j < (L.length : Int)) ∧ (lkAt L (gB L b c j)).b = itB L b c j) : ∀ (m : Nat) (u : Int), m ≤ P →
    walkF L (((List.range' 0 m).map (gB L b c)).reverse) ((itB L b c m : Nat) : Int) u = (((itB L b c 0 : Nat) : Int), u + sumB L b c m, true)
  | 0, u, _ => by simp [walkF, sumB]
  | m + 1, u, hm => by
    obtain ⟨h1, h2⟩ := hin m (by omega)
    rw [List.range'_concat, List.map_append, List.reverse_append]
    show walkF L (gB L b c (0 + 1 * m) :: ((List.range' 0 m).map (gB L b c)).reverse) ((itB L b c (m + 1) : Nat) : Int) u = _
    rw [show 0 + 1 * m = m by omega]
    unfold walkF
    rw [if_pos ⟨h1, rfl⟩, h2, walk_chain hin m _ (by omega)]
    simp only [sumB]
    rw [Int.add_assoc, Int.add_comm (sumB L b c m)]
end
end Go.Proofs.Ks
